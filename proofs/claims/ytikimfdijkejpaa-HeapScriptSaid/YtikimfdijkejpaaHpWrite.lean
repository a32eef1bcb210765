/- The lists that were handed out: write. -/
import Derived.Test.YtikimfdijkejpaaHpBook
import Derived.Deep.RegionHeld3
namespace Go.Proofs.Ytikimfdijkejpaa.HT
open Go.RowKit Go.Sb

/-- the limits: of all, and of those that may be written -/
def LimF (M fr : Nat) (L : List Ent) : Prop := ∀ (j : Nat) (e : Ent), L[j]? = some e → e.xs.length ≤ M + 40 ∧ (fr ≤ j → e.xs.length ≤ M)

/-- marks are written into all of them -/
def MarkRel (F : Nat → Prop) (w : World) (h n M fr : Nat) (vo vw : Value) (rest : List Value × List Value) (i : Value) (wr : World) : Prop :=
  ∃ (k : Nat) (L : List Ent), i = .int .i64 (k : Int) ∧ fr ≤ k ∧ k ≤ n ∧ L.length = n ∧ LimF M fr L ∧ Held 71 22 3 F wr (fun j => fr ≤ j) h vo vw rest L ∧ Fr F w wr

/-- .. into one -/
def MarkIn (F : Nat → Prop) (w : World) (h n M fr j m : Nat) (vo vw : Value) (rest : List Value × List Value) (i : Value) (wr : World) : Prop :=
  ∃ (k : Nat) (L : List Ent) (e : Ent), i = .int .i64 (k : Int) ∧ k ≤ m ∧ L.length = n ∧ LimF M fr L ∧ L[j]? = some e ∧ e.xs.length = m ∧ Held 71 22 3 F wr (fun j => fr ≤ j) h vo vw rest L ∧ Fr F w wr

/-- they are lengthened, one after the other -/
def GrowRel (F : Nat → Prop) (w : World) (h n M fr : Nat) (rest : List Value × List Value) (i : Value) (wr : World) : Prop :=
  ∃ (k : Nat) (L : List Ent) (vo vw : Value), i = .int .i64 (k : Int) ∧ fr ≤ k ∧ k ≤ n ∧ L.length = n + (k - fr) ∧ LimF M fr (L.take n) ∧ (∀ (j : Nat) (e : Ent), L[j]? = some e → e.xs.length ≤ M + 40) ∧ Held 71 22 3 F wr (fun j => k ≤ j ∧ j < n) h vo vw rest L ∧ Fr F w wr

/-- .. one, number by number -/
def GrowIn (F : Nat → Prop) (w0 : World) (o : Value) (xs : List Int) (i l m : Value) (wr : World) : Prop :=
  ∃ (k : Nat) (zs : List Int), i = .int .i64 (k : Int) ∧ k ≤ 40 ∧ zs.length = xs.length + k ∧ GrowSt 3 F w0 wr o l m xs zs zs

/-- two stores of one number -/
theorem mark_step {F A : Nat → Prop} {rest : List Value × List Value} {wr : World} {h j k : Nat} {vo vw : Value} {L : List Ent} {e : Ent} (hh : Held 71 22 3 F wr A h vo vw rest L) (he : L[j]? = some e) (hA : A j) (hk : k < e.xs.length) (c : Int)
    {go gw : Nat} (hgo : e.out.ownBlock = some go) (hgw : e.want.ownBlock = some gw) :
    Held 71 22 3 F ((wr.setCell ⟨go, k, none⟩ (bi c)).setCell ⟨gw, k, none⟩ (bi c)) A h vo vw rest (L.set j ⟨e.out, e.want, e.xs.set k c⟩) ∧ Fr F wr ((wr.setCell ⟨go, k, none⟩ (bi c)).setCell ⟨gw, k, none⟩ (bi c)) := by
  obtain ⟨h1, h2, h3⟩ := hh.pile.act j e hA he
  have hne : go ≠ gw := fun h => h3 go hgo (h ▸ hgw)
  have hf : Fr (fun k => e.out.ownBlock = some k ∨ e.want.ownBlock = some k) wr ((wr.setCell ⟨go, k, none⟩ (bi c)).setCell ⟨gw, k, none⟩ (bi c)) :=
    ((Fr.refl _ wr).setCell (.inl (.inl hgo)) _).setCell (.inl (.inr hgw)) _
  have ho : OB 3 F ((wr.setCell ⟨go, k, none⟩ (bi c)).setCell ⟨gw, k, none⟩ (bi c)) e.out (e.xs.set k c) := by
    have h4 : OB 3 F (wr.setCell ⟨go, k, none⟩ (bi c)) e.out (e.xs.set k c) := by
      unfold OB
      rw [List.length_set, List.map_set]
      exact Own.set h1 hgo hk
    exact OB.of h4 (fun i hi => heap_setCell_ne _ _ _ _ (fun h => by rw [hgo, Option.some.injEq] at hi; exact hne (hi.trans h)))
  have hw : OB 3 F ((wr.setCell ⟨go, k, none⟩ (bi c)).setCell ⟨gw, k, none⟩ (bi c)) e.want (e.xs.set k c) := by
    have h4 : OB 3 F (wr.setCell ⟨go, k, none⟩ (bi c)) e.want e.xs := OB.of h2 (fun i hi => heap_setCell_ne _ _ _ _ (fun h => by rw [hgw, Option.some.injEq] at hi; exact hne (hi.trans h).symm))
    unfold OB
    rw [List.length_set, List.map_set]
    exact Own.set h4 hgw hk
  have hF : Fr F wr ((wr.setCell ⟨go, k, none⟩ (bi c)).setCell ⟨gw, k, none⟩ (bi c)) := hf.mono (fun i _ hi => hi.elim (fun hi => (Own.block h1 i hi).1) (fun hi => (Own.block h2 i hi).1))
  have hr := hh.rows.bytes hf (E := 3) (fun i _ hi => by
    rcases hi with hi | hi
    · exact (h1.rd.2 i hi).2
    · exact (h2.rd.2 i hi).2) (by decide) (by decide)
  refine ⟨⟨⟨hr.head, hr.mine, ?_, ?_, hr.apart⟩, hh.pile.change hA he hf ho hw⟩, hF⟩
  · rw [List.length_set, List.map_set]
    have : (L.map (·.out)).set j e.out = L.map (·.out) := by
      apply List.ext_getElem?
      intro i
      rw [List.getElem?_set]
      split
      · subst_vars
        rw [List.getElem?_map, he]
        simp
        exact (List.getElem?_eq_some_iff.1 he).1
      · rfl
    rw [this]
    exact hr.outs
  · rw [List.length_set, List.map_set]
    have : (L.map (·.want)).set j e.want = L.map (·.want) := by
      apply List.ext_getElem?
      intro i
      rw [List.getElem?_set]
      split
      · subst_vars
        rw [List.getElem?_map, he]
        simp
        exact (List.getElem?_eq_some_iff.1 he).1
      · rfl
    rw [this]
    exact hr.wants

/-- another count of those that were written -/
theorem held_fresh {F : Nat → Prop} {A : Nat → Prop} {w : World} {h : Nat} {av bv vo vw fr : Value} {L : List Ent} (hh : Held 71 22 3 F w A h vo vw ([av, bv], [fr]) L) (v : Value) : Held 71 22 3 F (w.setCell ⟨h, 4, none⟩ v) A h vo vw ([av, bv], [v]) L ∧ Fr F w (w.setCell ⟨h, 4, none⟩ v) := by
  have hhd : w.heap[h]? = some (.cells #[av, bv, vo, vw, fr] 71 (0, 0)) := hh.rows.head
  have hf : Fr (fun k => k = h) w (w.setCell ⟨h, 4, none⟩ v) := (Fr.refl (fun k => k = h) w).setCell (p := ⟨h, 4, none⟩) (.inl rfl) v
  refine ⟨⟨⟨heap_setCell_eq 4 v hhd, hh.rows.mine, hh.rows.outs.of (fun k hk hb => hf.block k hk (fun e => Go.Sb.own_ne hhd (by decide) hh.rows.outs (by rw [hb, e]))), hh.rows.wants.of (fun k hk hb => hf.block k hk (fun e => Go.Sb.own_ne hhd (by decide) hh.rows.wants (by rw [hb, e]))), hh.rows.apart⟩, hh.pile.of (fun k cs _ hk => hf.block k (lt_of_heap hk) (fun e => ne_of_types hk hhd (by decide) e))⟩, hf.mono (fun k _ e => e ▸ hh.rows.mine)⟩

set_option maxRecDepth 100000 in
set_option maxHeartbeats 4000000 in
theorem write_any {F : Nat → Prop} (w : World) (h M fr : Nat) (av bv vo vw : Value) (L : List Ent) (hh : Held 71 22 3 F w (fun j => fr ≤ j) h vo vw ([av, bv], [.int .i64 (fr : Int)]) L) (hF : ∀ k, w.heap.size ≤ k → F k) (hM : M ≤ 8796093022208) (hl : LimF M fr L) (hfr : fr ≤ L.length) (hn : L.length + (L.length - fr) ≤ 8796093022208) :
    Calls Try.prog 35 #[.pointer (some ⟨h, 2, none⟩)] w fun e w' => e = .returned (.bool true) ∧ ∃ vo' vw' L', Held 71 22 3 F w' (fun j => L'.length ≤ j) h vo' vw' ([av, bv], [.int .i64 (L'.length : Int)]) L' ∧ (∀ (j : Nat) (e : Ent), L'[j]? = some e → e.xs.length ≤ M + 40) ∧ L'.length = L.length + (L.length - fr) ∧ Fr F w w' := by
  have hh0 : w.heap[h]? = some (.cells #[av, bv, vo, vw, .int .i64 (fr : Int)] 71 (0, 0)) := hh.rows.head
  have hc0 : w.cell? ⟨h, 2, none⟩ = some vo := cell_is hh0 2 rfl
  have hc4 : w.cell? ⟨h, 4, none⟩ = some (.int .i64 (fr : Int)) := cell_is hh0 4 rfl
  have HO := Lib.hid (holds_any w h av bv vo vw (.int .i64 (fr : Int)) L hh.rows (fun j e he => ⟨(hh.pile.rd j e he).1.1, (hh.pile.rd j e he).2.1⟩) (fun j e he => by have := (hl j e he).1; omega) (by omega))
  have HH := Lib.hid hh
  have HL := Lib.hid hl
  obtain ⟨ao, co, rfl⟩ : ∃ ao co, vo = .slice ao L.length co := by
    rcases hh.rows.outs.shape with ⟨rfl, hl, _⟩ | ⟨go, co, rfl, _⟩
    · exact ⟨none, 0, by rw [hl]⟩
    · exact ⟨_, _, rfl⟩
  clear hh hl hh0
  go_enter Try.func35, Try.ntmps35
  go_wp2_with (fail)
  refine HO.out.mono ?_
  rintro e w1 ⟨rfl, m1, hw1⟩
  have hcx : ∀ a, w1.cell? a = w.cell? a := fun a => by rw [hw1]; rfl
  rw [← hcx] at hc0 hc4
  have hst : MarkRel F w h L.length M fr (.slice ao L.length co) vw ([av, bv], [.int .i64 (fr : Int)]) (.int .i64 (fr : Int)) w1.drew := ⟨fr, L, rfl, Nat.le_refl _, hfr, rfl, HL.out, by rw [hw1]; exact HH.out.none (((Fr.refl _ _).drewN m1).drew), by rw [hw1]; exact ((Fr.refl _ _).drewN m1).drew⟩
  have HST := Lib.hid hst
  clear hst hcx hw1 HO
  go_wp2_with (fail)
  go_region
  go_wp2_with (fail)
  go_loopw [6] (fun i wr => MarkRel F w h L.length M fr (.slice ao L.length co) vw ([av, bv], [.int .i64 (fr : Int)]) i wr) (fun i _ => L.length - (intOf i).toNat)
  case atStart => exact HST.out
  case round =>
    obtain ⟨i, L1, rfl, hfi, hi, hl1, hlim, hh1, hf1⟩ := hrel
    by_cases hlt : i < L.length
    · have he : L1[i]? = some (L1[i]'(by omega)) := List.getElem?_eq_getElem (by omega)
      have hh1h : wr.heap[h]? = some (.cells #[av, bv, .slice ao L.length co, vw, .int .i64 (fr : Int)] 71 (0, 0)) := hh1.rows.head
      have hc1 : wr.cell? ⟨h, 2, none⟩ = some (.slice ao L.length co) := cell_is hh1h 2 rfl
      obtain ⟨go, co', hvo, _, _⟩ := Go.Sb.Own.some hh1.rows.outs (by omega)
      obtain ⟨rfl, hz1, rfl⟩ : ao = some ⟨go, 0, none⟩ ∧ L.length = L1.length ∧ co = co' := by simpa using hvo
      obtain ⟨gw, cw, hvw, _, _⟩ := Go.Sb.Own.some hh1.rows.wants (by omega)
      subst hvw
      have hco1 : wr.cell? ⟨go, i, none⟩ = some (L1[i]'(by omega)).out := hh1.rows.outs.cell rfl (by rw [List.getElem?_map, he]; rfl)
      have hmm : (L1[i]'(by omega)).xs.length ≤ M := (hlim i _ he).2 hfi
      obtain ⟨a1, _, _⟩ := hh1.pile.act i _ hfi he
      obtain ⟨ae, ce, hxe⟩ : ∃ a c, (L1[i]'(by omega)).out = .slice a (L1[i]'(by omega)).xs.length c := by
        obtain ⟨a, c, h, _⟩ := a1.rb
        exact ⟨a, c, h⟩
      have HMI := Lib.hid (show MarkIn F w h L.length M fr i (L1[i]'(by omega)).xs.length (.slice (some ⟨go, 0, none⟩) L.length co) (.slice (some ⟨gw, 0, none⟩) L1.length cw) ([av, bv], [.int .i64 (fr : Int)]) (.int .i64 0) wr from ⟨0, L1, _, rfl, Nat.zero_le _, hl1, hlim, he, rfl, hh1, hf1⟩)
      rw [hxe] at hco1
      clear hh1 hlim hf1 he a1 hxe hh1h
      generalize (L1[i]'(by omega)).xs.length = m at *
      rw [← hz1] at *
      clear hvo hz1
      try clear hl1
      go_wp2_with (fail)
      go_loopw [36] (fun k wr2 => MarkIn F w h L.length M fr i m (.slice (some ⟨go, 0, none⟩) L.length co) (.slice (some ⟨gw, 0, none⟩) L.length cw) ([av, bv], [.int .i64 (fr : Int)]) k wr2) (fun k _ => m - (intOf k).toNat)
      case atStart => exact HMI.out
      case round =>
        obtain ⟨k, L2, e2, rfl, hk, hl2, hlim2, he2, hm2, hh2, hf2⟩ := hrel
        rename World => wA
        obtain ⟨a1, a2, a3⟩ := hh2.pile.act i e2 hfi he2
        have hh2h : wA.heap[h]? = some (.cells #[av, bv, (.slice (some ⟨go, 0, none⟩) L.length co), (.slice (some ⟨gw, 0, none⟩) L.length cw), .int .i64 (fr : Int)] 71 (0, 0)) := hh2.rows.head
        have hc1 : wA.cell? ⟨h, 2, none⟩ = some (.slice (some ⟨go, 0, none⟩) L.length co) := cell_is hh2h 2 rfl
        have hc2 : wA.cell? ⟨h, 3, none⟩ = some (.slice (some ⟨gw, 0, none⟩) L.length cw) := cell_is hh2h 3 rfl
        have hc3 : wA.cell? ⟨go, i, none⟩ = some e2.out := hh2.rows.outs.cell rfl (by rw [List.getElem?_map, he2]; rfl)
        have hc4 : wA.cell? ⟨gw, i, none⟩ = some e2.want := hh2.rows.wants.cell rfl (by rw [List.getElem?_map, he2]; rfl)
        by_cases hkm : k < m
        · obtain ⟨g2, c2, hg2, _, _⟩ := Go.Sb.Own.some a1 (by omega)
          obtain ⟨g3, c3, hg3, _, _⟩ := Go.Sb.Own.some a2 (by omega)
          have hwrap : IntKind.i64.wrap (-1 - (i : Int)) = -1 - (i : Int) := by rw [IntKind.wrap_i64]; omega
          have hb2 : e2.out.ownBlock = some g2 := by rw [hg2]; rfl
          have hb3 : e2.want.ownBlock = some g3 := by rw [hg3]; rfl
          have hs := mark_step hh2 he2 hfi (k := k) (by omega) (-1 - (i : Int)) hb2 hb3
          unfold bi at hs
          have hc5 : wA.cell? ⟨g2, k, none⟩ = some (bi (e2.xs[k]'(by omega))) := Own.cell a1 hb2 (by simp [hm2, hkm])
          have hc6 : wA.cell? ⟨g3, k, none⟩ = some (bi (e2.xs[k]'(by omega))) := Own.cell a2 hb3 (by simp [hm2, hkm])
          have hz2 := Own.frozen a1 hb2 k
          have hz3 := Own.frozen a2 hb3 k
          rw [hg2, hm2] at hc3
          rw [hg3, hm2] at hc4
          have n1 : h ≠ g2 := by
            obtain ⟨_, cs, hh⟩ := a1.rd.2 g2 hb2
            exact ne_of_types hh2h hh (by decide)
          have n3 : g2 ≠ g3 := fun h => a3 g2 hb2 (h ▸ hb3)
          have n4 : gw ≠ g2 := by
            obtain ⟨_, cs, hh⟩ := a1.rd.2 g2 hb2
            rintro rfl
            rcases hh2.rows.wants.2 with ⟨h, _⟩ | ⟨g, cap, cur, he, _, hgg, _⟩
            · cases h
            · simp only [Value.slice.injEq, Option.some.injEq, Addr.mk.injEq] at he
              obtain ⟨⟨rfl, _⟩, _⟩ := he
              exact ne_of_types hgg hh (by decide) rfl
          have HS := Lib.hid hs
          have HF2 := Lib.hid hf2
          have HB : Hid (L2.length = L.length ∧ LimF M fr L2 ∧ L2[i]? = some e2 ∧ e2.xs.length = m) := ⟨hl2, hlim2, he2, hm2⟩
          generalize bi (e2.xs[k]'(by omega)) = ob at hc5 hc6
          clear hs hf2 hl2 hlim2 he2 hh2 a1 a2 a3 hb2 hb3 hg2 hg3 hh2h
          go_wp2_with (fail)
          go_roundw
          case rel =>
            obtain ⟨b1, b2, b3, b4⟩ := HB.out
            refine ⟨k + 1, L2.set i ⟨e2.out, e2.want, e2.xs.set k (-1 - (i : Int))⟩, ⟨e2.out, e2.want, e2.xs.set k (-1 - (i : Int))⟩, rfl, hkm, by rw [List.length_set]; exact b1, ?_, ?_, by simpa using b4, HS.out.1, HF2.out.trans HS.out.2 (fun _ _ h => h)⟩
            · intro j e he
              rcases get_set he with ⟨hji, rfl, _⟩ | ⟨_, he⟩
              · subst hji
                simpa using b2 j e2 b3
              · exact b2 j e he
            · rw [List.getElem?_set_self (List.getElem?_eq_some_iff.1 b3).1]
          case measure => simp [intOf]; omega
        · have hkm2 : k = m := by omega
          subst hkm2
          have HX := Lib.hid (show MarkRel F w h L.length M fr (.slice (some ⟨go, 0, none⟩) L.length co) (.slice (some ⟨gw, 0, none⟩) L.length cw) ([av, bv], [.int .i64 (fr : Int)]) (.int .i64 ((i + 1 : Nat) : Int)) wA from ⟨i + 1, L2, rfl, by omega, hlt, hl2, hlim2, hh2, hf2⟩)
          clear hh2 a1 a2 a3 hf2 hlim2 he2 hh2h
          go_wp2_with (fail)
          go_roundw
          case rel => exact HX.out
          case measure => simp [intOf]; omega
    · have hin : i = L.length := by omega
      subst hin
      have HG0 : Hid (GrowRel F w h L.length M fr ([av, bv], [.int .i64 (fr : Int)]) (.int .i64 (fr : Int)) wr) := ⟨fr, L1, _, _, rfl, Nat.le_refl _, hfr, by omega, by rw [← hl1, List.take_length]; exact hlim, fun j e he => (hlim j e he).1, ⟨hh1.rows, hh1.pile.lift (fun j hj hj2 => hj2.1)⟩, hf1⟩
      clear hh1 hf1 hlim hl1
      go_wp2_with (fail)
      go_loopw [8, 9, 10] (fun i _ _ wr => GrowRel F w h L.length M fr ([av, bv], [.int .i64 (fr : Int)]) i wr) (fun i _ _ _ => L.length - (intOf i).toNat)
      case atStart => exact HG0.out
      case round =>
        obtain ⟨i, L2, vo2, vw2, rfl, hfi, hi, hl2, hlt2, hlim2, hh2, hf2⟩ := hrel
        rename World => wA
        by_cases hlt : i < L.length
        · have he : L2[i]? = some (L2[i]'(by omega)) := List.getElem?_eq_getElem (by omega)
          generalize L2[i]'(by omega) = e2 at he
          obtain ⟨a1, a2, a3⟩ := hh2.pile.act i e2 ⟨Nat.le_refl _, hlt⟩ he
          obtain ⟨go, co2, hvo2, _, _⟩ := Go.Sb.Own.some hh2.rows.outs (by omega)
          obtain ⟨gw, cw2, hvw2, _, _⟩ := Go.Sb.Own.some hh2.rows.wants (by omega)
          subst hvo2 hvw2
          have hh2h : wA.heap[h]? = some (.cells #[av, bv, .slice (some ⟨go, 0, none⟩) L2.length co2, .slice (some ⟨gw, 0, none⟩) L2.length cw2, .int .i64 (fr : Int)] 71 (0, 0)) := hh2.rows.head
          have hc1 : wA.cell? ⟨h, 2, none⟩ = some (.slice (some ⟨go, 0, none⟩) L2.length co2) := cell_is hh2h 2 rfl
          have hc2 : wA.cell? ⟨h, 3, none⟩ = some (.slice (some ⟨gw, 0, none⟩) L2.length cw2) := cell_is hh2h 3 rfl
          have hc3 : wA.cell? ⟨go, i, none⟩ = some e2.out := hh2.rows.outs.cell rfl (by rw [List.getElem?_map, he]; rfl)
          have hc4 : wA.cell? ⟨gw, i, none⟩ = some e2.want := hh2.rows.wants.cell rfl (by rw [List.getElem?_map, he]; rfl)
          have hi2 : (i : Int) < (L2.length : Int) := by omega
          have hme : e2.xs.length ≤ M := (hlt2 i e2 (by rw [List.getElem?_take, if_pos hlt]; exact he)).2 hfi
          have hwrap : IntKind.i64.wrap (-1 - (i : Int)) = -1 - (i : Int) := by rw [IntKind.wrap_i64]; omega
          have HA1 := Lib.hid a1
          have HA2 := Lib.hid a2
          have HH2' := Lib.hid hh2
          have HE := Lib.hid he
          have HLT := Lib.hid hlt2
          have HLM := Lib.hid hlim2
          have HF3 := Lib.hid hf2
          have hs0 := hf2.size
          have hF2 : ∀ k, wA.heap.size ≤ k → F k := fun k hk => hF k (Nat.le_trans hs0 hk)
          obtain ⟨xe, ce, hxe⟩ : ∃ a c, e2.out = .slice a e2.xs.length c := by
            obtain ⟨a, c, h, _⟩ := a1.rb
            exact ⟨a, c, h⟩
          obtain ⟨xw, cw, hxw⟩ : ∃ a c, e2.want = .slice a e2.xs.length c := by
            obtain ⟨a, c, h, _⟩ := a2.rb
            exact ⟨a, c, h⟩
          have hoz : ∀ b off s n cc, e2.out = .slice (some ⟨b, off, s⟩) n cc → off = 0 := by
            intro b off s n cc h
            rcases a1.shape with ⟨h2, _⟩ | ⟨g, c, h2, _⟩
            · rw [h2] at h; cases h
            · rw [h2] at h
              simp only [Value.slice.injEq, Option.some.injEq, Addr.mk.injEq] at h
              exact h.1.2.1.symm
          have hsrc : Src wA.drew (.slice xw e2.xs.length cw) e2.xs.length 1 (e2.xs.map bi) := by rw [← hxw]; exact rj_src (a2.rb.drewN 1)
          have HL2 := Lib.hid hl2
          have hL2b : L2.length ≤ 8796093022208 := by omega
          clear hl2
          have HXE := Lib.hid hxe
          have HOZ := Lib.hid hoz
          rw [hxe] at hc3
          rw [hxw] at hc4
          clear hh2 a1 a2 a3 hf2 hlim2 he hh2h hxe hxw hoz hlt2
          go_wp2_with (fail)
          have HCC : Hid (∀ w', Fr (fun _ => False) wA w' → w'.cell? ⟨h, 2, none⟩ = some (.slice (some ⟨go, 0, none⟩) L2.length co2) ∧ w'.cell? ⟨h, 3, none⟩ = some (.slice (some ⟨gw, 0, none⟩) L2.length cw2) ∧ w'.cell? ⟨go, i, none⟩ = some (.slice xe e2.xs.length ce) ∧ w'.cell? ⟨gw, i, none⟩ = some (.slice xw e2.xs.length cw)) :=
            Lib.hid (fun w' hf => ⟨cell_fr hf hc1 id, cell_fr hf hc2 id, cell_fr hf hc3 id, cell_fr hf hc4 id⟩)
          refine wp_region_held_drew (S := fun w' => Fr (fun _ => False) wA w') (by kernel_rfl) ((Fr.refl _ wA).drew) (fun hS1 => ?_)
          refine wpAnyH_take (i := 0) (v := (.pointer (some ⟨h, 2, none⟩))) rfl (by kernel_rfl) (by kernel_rfl) (by kernel_rfl) (fun _ _ _ h => h) (Or.inl ⟨by rfl, fun w' hS => by obtain ⟨r0, r1, r2, r3⟩ := HCC.out w' hS; go_simp⟩) hS1 ?_
          try simp only [Act.put, List.getElem_toArray, List.getElem_cons_zero, List.setIfInBounds_toArray, List.set_cons_zero, List.set_cons_succ]
          refine wpAnyH_take (i := 1) (v := (.pointer (some ⟨h, 2, none⟩))) rfl (by kernel_rfl) (by kernel_rfl) (by kernel_rfl) (fun _ _ _ h => h) (Or.inl ⟨by rfl, fun w' hS => by obtain ⟨r0, r1, r2, r3⟩ := HCC.out w' hS; go_simp⟩) hS1 ?_
          try simp only [Act.put, List.getElem_toArray, List.getElem_cons_zero, List.getElem_cons_succ, List.setIfInBounds_toArray, List.set_cons_zero, List.set_cons_succ]
          refine wpAnyH_take (i := 2) (v := (.pointer (some ⟨h, 2, none⟩))) rfl (by kernel_rfl) (by kernel_rfl) (by kernel_rfl) (fun _ _ _ h => h) (Or.inl ⟨by rfl, fun w' hS => by obtain ⟨r0, r1, r2, r3⟩ := HCC.out w' hS; go_simp⟩) hS1 ?_
          try simp only [Act.put, List.getElem_toArray, List.getElem_cons_zero, List.getElem_cons_succ, List.setIfInBounds_toArray, List.set_cons_zero, List.set_cons_succ]
          refine wpAnyH_take (i := 3) (v := (.slice (some ⟨go, 0, none⟩) L2.length co2)) rfl (by kernel_rfl) (by kernel_rfl) (by kernel_rfl) (fun _ _ _ h => h) (Or.inl ⟨by rfl, fun w' hS => by obtain ⟨r0, r1, r2, r3⟩ := HCC.out w' hS; go_simp⟩) hS1 ?_
          try simp only [Act.put, List.getElem_toArray, List.getElem_cons_zero, List.getElem_cons_succ, List.setIfInBounds_toArray, List.set_cons_zero, List.set_cons_succ]
          refine wpAnyH_take (i := 4) (v := (.int .i64 (i : Int))) rfl (by kernel_rfl) (by kernel_rfl) (by kernel_rfl) (fun _ _ _ h => h) (Or.inl ⟨by rfl, fun w' hS => by obtain ⟨r0, r1, r2, r3⟩ := HCC.out w' hS; go_simp⟩) hS1 ?_
          try simp only [Act.put, List.getElem_toArray, List.getElem_cons_zero, List.getElem_cons_succ, List.setIfInBounds_toArray, List.set_cons_zero, List.set_cons_succ]
          refine wpAnyH_take (i := 5) (v := (.pointer (some ⟨go, i, none⟩))) rfl (by kernel_rfl) (by kernel_rfl) (by kernel_rfl) (fun _ _ _ h => h) (Or.inl ⟨by rfl, fun w' hS => by obtain ⟨r0, r1, r2, r3⟩ := HCC.out w' hS; go_simp⟩) hS1 ?_
          try simp only [Act.put, List.getElem_toArray, List.getElem_cons_zero, List.getElem_cons_succ, List.setIfInBounds_toArray, List.set_cons_zero, List.set_cons_succ]
          refine wpAnyH_take (i := 6) (v := (.slice xe e2.xs.length ce)) rfl (by kernel_rfl) (by kernel_rfl) (by kernel_rfl) (fun _ _ _ h => h) (Or.inl ⟨by rfl, fun w' hS => by obtain ⟨r0, r1, r2, r3⟩ := HCC.out w' hS; go_simp⟩) hS1 ?_
          try simp only [Act.put, List.getElem_toArray, List.getElem_cons_zero, List.getElem_cons_succ, List.setIfInBounds_toArray, List.set_cons_zero, List.set_cons_succ]
          refine wpAnyH_take (i := 7) (v := (.pointer (some ⟨h, 2, none⟩))) rfl (by kernel_rfl) (by kernel_rfl) (by kernel_rfl) (fun _ _ _ h => h) (Or.inl ⟨by rfl, fun w' hS => by obtain ⟨r0, r1, r2, r3⟩ := HCC.out w' hS; go_simp⟩) hS1 ?_
          try simp only [Act.put, List.getElem_toArray, List.getElem_cons_zero, List.getElem_cons_succ, List.setIfInBounds_toArray, List.set_cons_zero, List.set_cons_succ]
          refine wpAnyH_take (i := 8) (v := (.pointer (some ⟨h, 2, none⟩))) rfl (by kernel_rfl) (by kernel_rfl) (by kernel_rfl) (fun _ _ _ h => h) (Or.inl ⟨by rfl, fun w' hS => by obtain ⟨r0, r1, r2, r3⟩ := HCC.out w' hS; go_simp⟩) hS1 ?_
          try simp only [Act.put, List.getElem_toArray, List.getElem_cons_zero, List.getElem_cons_succ, List.setIfInBounds_toArray, List.set_cons_zero, List.set_cons_succ]
          refine wpAnyH_take (i := 9) (v := (.pointer (some ⟨h, 3, none⟩))) rfl (by kernel_rfl) (by kernel_rfl) (by kernel_rfl) (fun _ _ _ h => h) (Or.inl ⟨by rfl, fun w' hS => by obtain ⟨r0, r1, r2, r3⟩ := HCC.out w' hS; go_simp⟩) hS1 ?_
          try simp only [Act.put, List.getElem_toArray, List.getElem_cons_zero, List.getElem_cons_succ, List.setIfInBounds_toArray, List.set_cons_zero, List.set_cons_succ]
          refine wpAnyH_take (i := 10) (v := (.slice (some ⟨gw, 0, none⟩) L2.length cw2)) rfl (by kernel_rfl) (by kernel_rfl) (by kernel_rfl) (fun _ _ _ h => h) (Or.inl ⟨by rfl, fun w' hS => by obtain ⟨r0, r1, r2, r3⟩ := HCC.out w' hS; go_simp⟩) hS1 ?_
          try simp only [Act.put, List.getElem_toArray, List.getElem_cons_zero, List.getElem_cons_succ, List.setIfInBounds_toArray, List.set_cons_zero, List.set_cons_succ]
          refine wpAnyH_take (i := 11) (v := (.int .i64 (i : Int))) rfl (by kernel_rfl) (by kernel_rfl) (by kernel_rfl) (fun _ _ _ h => h) (Or.inl ⟨by rfl, fun w' hS => by obtain ⟨r0, r1, r2, r3⟩ := HCC.out w' hS; go_simp⟩) hS1 ?_
          try simp only [Act.put, List.getElem_toArray, List.getElem_cons_zero, List.getElem_cons_succ, List.setIfInBounds_toArray, List.set_cons_zero, List.set_cons_succ]
          refine wpAnyH_take (i := 12) (v := (.pointer (some ⟨gw, i, none⟩))) rfl (by kernel_rfl) (by kernel_rfl) (by kernel_rfl) (fun _ _ _ h => h) (Or.inl ⟨by rfl, fun w' hS => by obtain ⟨r0, r1, r2, r3⟩ := HCC.out w' hS; go_simp⟩) hS1 ?_
          try simp only [Act.put, List.getElem_toArray, List.getElem_cons_zero, List.getElem_cons_succ, List.setIfInBounds_toArray, List.set_cons_zero, List.set_cons_succ]
          refine wpAnyH_take (i := 13) (v := (.slice xw e2.xs.length cw)) rfl (by kernel_rfl) (by kernel_rfl) (by kernel_rfl) (fun _ _ _ h => h) (Or.inl ⟨by rfl, fun w' hS => by obtain ⟨r0, r1, r2, r3⟩ := HCC.out w' hS; go_simp⟩) hS1 ?_
          try simp only [Act.put, List.getElem_toArray, List.getElem_cons_zero, List.getElem_cons_succ, List.setIfInBounds_toArray, List.set_cons_zero, List.set_cons_succ]
          refine wpAnyH_ready (rs := [14]) (by kernel_rfl) (by simp) ?_
          refine AllReadyH.cons rfl (fun K hK => ?_) AllReadyH.nil
          refine step_append_Own rfl _ _ 22 rfl 3 (.int .i64 0) 1 8 Try.underlying22 info3 rfl (by decide) (.slice none 0 0) 0 [] rfl (Own.nil 3 1 (fun k => wA.heap.size ≤ k) _) (.slice xw e2.xs.length cw) e2.xs.length (e2.xs.map bi) rfl hsrc (by unfold maxLen; omega) (by omega) ?_
          intro v9 w9 hv9 hf9 hn9 hd9
          have hf9' : Fr (fun _ => False) wA w9 := ((Fr.refl (fun _ => False) wA).drew).trans hf9 (fun k _ h => by cases h)
          have hv9' : OB 3 (fun k => wA.heap.size ≤ k) w9 v9 e2.xs := (by simpa [OB] using hv9.mono (G := fun k => wA.heap.size ≤ k) (fun k _ hk => hk.elim id id))
          have HV9 := Lib.hid hv9'
          have HF9 := Lib.hid hf9'
          refine hK.out _ _ hf9' (fun hS2 => ?_)
          obtain ⟨a9, n9, k9, rfl⟩ := own_slice hv9
          clear hK K hv9 hv9' hf9 hf9' hn9 hd9
          try simp only [Act.put, List.getElem_toArray, List.getElem_cons_zero, List.getElem_cons_succ, List.setIfInBounds_toArray, List.set_cons_zero, List.set_cons_succ]
          refine wpAnyH_take (i := 15) (v := (.slice xe e2.xs.length ce)) rfl (by kernel_rfl) (by kernel_rfl) (by kernel_rfl) (fun _ _ _ h => h) (Or.inl ⟨by rfl, fun w' hS => by go_simp⟩) hS2 ?_
          try simp only [Act.put, List.getElem_toArray, List.getElem_cons_zero, List.getElem_cons_succ, List.setIfInBounds_toArray, List.set_cons_zero, List.set_cons_succ]
          refine wpAnyH_take (i := 16) (v := (.slice a9 n9 k9)) rfl (by kernel_rfl) (by kernel_rfl) (by kernel_rfl) (fun _ _ _ h => h) (Or.inl ⟨by rfl, fun w' hS => by go_simp⟩) hS2 ?_
          try simp only [Act.put, List.getElem_toArray, List.getElem_cons_zero, List.getElem_cons_succ, List.setIfInBounds_toArray, List.set_cons_zero, List.set_cons_succ]
          refine wpAnyH_done (by kernel_rfl) ?_ _
          have HG0 : Hid (GrowSt 3 F wA w9 e2.out e2.out (.slice a9 n9 k9) e2.xs e2.xs e2.xs) :=
            ⟨HA1.out.rd.of (fun k hk => HF9.out.block k (Own.block HA1.out k hk).2 (fun h => h)), HOZ.out, OB.of HA1.out (fun k hk => HF9.out.block k (Own.block HA1.out k hk).2 (fun h => h)), Own.mono HV9.out (fun k _ hk => hF2 k hk), ⟨[], by simp⟩,
              fun k hk => .inl hk, fun k hk => (Own.block HV9.out k hk).1, fun k hk => (Own.block HA1.out k hk).2, fun k hk hk' => by have := (Own.block HA1.out k hk).2; have := (Own.block HV9.out k hk').1; omega, HF9.out.mono (fun _ _ h => h.elim)⟩
          have hs9 := HF9.out.size
          clear hc1 hc2 hc3 hc4 hsrc
          go_wp2_with (fail)
          go_loopw [9, 10, 83] (fun l m i wr' => ∃ ll mm, ll = l ∧ mm = m ∧ GrowIn F wA e2.out e2.xs i ll mm wr') (fun _ _ i _ => 40 - (intOf i).toNat)
          case atStart => exact ⟨_, _, rfl, rfl, 0, e2.xs, rfl, by omega, rfl, by rw [← HXE.out]; exact HG0.out⟩
          case round =>
            obtain ⟨ll, mm, rfl, rfl, k, zs, rfl, hk, hz, hst⟩ := hrel
            rename World => wr
            have HG := Lib.hid hst
            by_cases hk1 : k < 40
            · clear hst
              go_wp2_with (first
                | (at_builtin; refine wpList_append_Own _ rfl _ _ 22 rfl 3 (.int .i64 0) 1 8 Try.underlying22 info3 rfl (by decide) ll zs.length (zs.map bi) rfl (HG.out.ol.alloc _) (.slice (some ⟨wr.heap.size, 0, none⟩) 1 1) 1 [bi (-1 - (i : Int))] rfl (src_val wr (bi (-1 - (i : Int))) 3 rfl) (by unfold maxLen; omega) (by omega) ?_; intro v3 w3 hv3 hf3 hn3 hd3; have HG1 := Lib.hid (HG.out.stepL hF2 hv3 hf3 hd3); clear hv3 hf3 hn3 hd3)
                | (at_builtin; refine wpList_append_Own _ rfl _ _ 22 rfl 3 (.int .i64 0) 1 8 Try.underlying22 info3 rfl (by decide) mm zs.length (zs.map bi) rfl (HG1.out.om.alloc _) (.slice (some ⟨w3.heap.size, 0, none⟩) 1 1) 1 [bi (-1 - (i : Int))] rfl (src_val w3 (bi (-1 - (i : Int))) 3 rfl) (by unfold maxLen; omega) (by omega) ?_; intro v4 w4 hv4 hf4 hn4 hd4; have HG2 := Lib.hid (HG1.out.stepM hF2 hv4 hf4 hd4); clear hv4 hf4 hn4 hd4))
              go_roundw
              case rel => exact ⟨_, _, rfl, rfl, k + 1, zs ++ [-1 - (i : Int)], rfl, hk1, by simp [hz]; omega, HG2.out⟩
              case measure => simp [intOf]; omega
            · have hk2 : k = 40 := by omega
              subst hk2
              have hr3 := HH2'.out.rows.bytes hst.fr (fun j _ ho => (HA1.out.rd.2 j ho).2) (by decide) (by decide)
              have hr3h : wr.heap[h]? = some (.cells #[av, bv, .slice (some ⟨go, 0, none⟩) L2.length co2, .slice (some ⟨gw, 0, none⟩) L2.length cw2, .int .i64 (fr : Int)] 71 (0, 0)) := hr3.head
              have HP3 := Lib.hid (HH2'.out.pile.grow (j := i) ⟨Nat.le_refl _, hlt⟩ HE.out hst.fr hst.ro hst.ol.rd hst.om.rd hst.lb hst.mb)
              have hcell : wr.cell? ⟨h, 2, none⟩ = some (.slice (some ⟨go, 0, none⟩) L2.length co2) := cell_is hr3h 2 rfl
              have HH1 := Lib.hid hr3h
              have HR1 := Lib.hid hr3
              have hno := Go.Sb.own_ne (R := 22) hr3h (by decide) hr3.outs
              have hs3 := hst.fr.size
              have HFA := Lib.hid (HF3.out.trans hst.fr (fun k _ hk => (Own.block HA1.out k hk).1))
              have hF3 : ∀ k, wr.heap.size ≤ k → F k := fun k hk => hF2 k (Nat.le_trans hs3 hk)
              obtain ⟨xl, cl, rfl, _⟩ := hst.ol.rb
              obtain ⟨xm, cm, rfl, _⟩ := hst.om.rb
              have hzl : zs.length = e2.xs.length + 40 := hz
              have HZL := Lib.hid hzl
              clear hst hr3 HG hz hr3h hzl
              go_wp2_with (first
                | (at_builtin; refine wpList_append_Own _ rfl _ _ 67 rfl 22 (.slice none 0 0) 1 24 Try.underlying67 infoS rfl (by decide) (.slice (some ⟨go, 0, none⟩) L2.length co2) L2.length (L2.map (·.out)) rfl (HR1.out.outs.alloc _) (.slice (some ⟨wr.heap.size, 0, none⟩) 1 1) 1 [.slice xl zs.length cl] rfl (src_val wr (.slice xl zs.length cl) 22 rfl) (by unfold maxLen; omega) (by omega) ?_; intro v5 w5 hv5 hf5 hn5 hd5; have hh5 : w5.heap[h]? = some (.cells #[av, bv, .slice (some ⟨go, 0, none⟩) L2.length co2, .slice (some ⟨gw, 0, none⟩) L2.length cw2, .int .i64 (fr : Int)] 71 (0, 0)) := hf5.get ((heap_alloc_lt _ _ _ (lt_of_heap HH1.out)).trans HH1.out) hno; have hc5 : w5.cell? ⟨h, 2, none⟩ = some (.slice (some ⟨go, 0, none⟩) L2.length co2) := cell_is hh5 2 rfl; have hz5 := frozen_of hh5 2; have hc6 : w5.cell? ⟨h, 3, none⟩ = some (.slice (some ⟨gw, 0, none⟩) L2.length cw2) := cell_is hh5 3 rfl; obtain ⟨g5, k5, rfl, _, _⟩ := hv5.some (by omega); have HX := Lib.hid (row_grown (j := 2) HH1.out (by decide) HR1.out.outs HR1.out.wants HR1.out.apart hF3 hv5 hf5 hd5); have hsx := HX.out.2.2.2.2.size; clear hv5 hf5 hn5 hd5 hh5)
                | (at_builtin; refine wpList_append_Own _ rfl _ _ 67 rfl 22 (.slice none 0 0) 1 24 Try.underlying67 infoS rfl (by decide) (.slice (some ⟨gw, 0, none⟩) L2.length cw2) L2.length (L2.map (·.want)) rfl (HX.out.2.2.1.alloc _) (.slice (some ⟨w5.heap.size, 0, none⟩) 1 1) 1 [.slice xm zs.length cm] rfl (by simpa using src_val (w5.setCell ⟨h, 2, none⟩ (.slice (some ⟨g5, 0, none⟩) (L2.length + 1) k5)) (.slice xm zs.length cm) 22 rfl) (by unfold maxLen; omega) (by omega) ?_; intro v6 w6 hv6 hf6 hn6 hd6; obtain ⟨g6, k6, rfl, _, _⟩ := hv6.some (by omega); have hno6 := Go.Sb.own_ne HX.out.1 (by decide) HX.out.2.2.1; have hh6 := hf6.get ((heap_alloc_lt _ _ _ (lt_of_heap HX.out.1)).trans HX.out.1) hno6; have hc7 : w6.cell? ⟨h, 3, none⟩ = some (.slice (some ⟨gw, 0, none⟩) L2.length cw2) := cell_is hh6 3 rfl; have hz6 := frozen_of hh6 3; have HY := Lib.hid (row_grown (j := 3) HX.out.1 (by decide) HX.out.2.2.1 HX.out.2.1 HX.out.2.2.2.1.symm (fun k hk => hF3 k (Nat.le_trans HX.out.2.2.2.2.size hk)) hv6 hf6 hd6); clear hv6 hf6 hn6 hd6 hh6))
              obtain ⟨x1, x2, x3, x4, x5⟩ := HX.out
              obtain ⟨y1, y2, y3, y4, y5⟩ := HY.out
              have hfr : Fr (HRows.at h (.slice (some ⟨go, 0, none⟩) L2.length co2) (.slice (some ⟨gw, 0, none⟩) L2.length cw2)) wr _ := (x5.mono (fun k _ hk => hk.imp id .inl)).trans y5 (fun k _ hk => hk.imp id .inr)
              have hp := HR1.out.pile HP3.out hfr (by decide) (by decide)
              refine ⟨⟨i + 1, L2 ++ [⟨.slice xl zs.length cl, .slice xm zs.length cm, zs⟩], _, _, rfl, by omega, hlt, by have := HL2.out; simp; omega, ?_, ?_, ⟨⟨y1, HR1.out.mine, ?_, ?_, y4.symm⟩, hp.lift (fun j hj hj2 => ⟨⟨by omega, hj2.2⟩, by omega, by have := HL2.out; omega⟩)⟩, HFA.out.trans (HR1.out.frF hfr) (fun _ _ h => h)⟩, ?_⟩
              · have hL2n : L.length ≤ L2.length := by have := HL2.out; omega
                rw [List.take_append_of_le_length hL2n]
                exact HLT.out
              · intro j e he
                rcases get_snoc he with ⟨he, _⟩ | ⟨hj2, rfl⟩
                · exact HLM.out j e he
                · show zs.length ≤ M + 40
                  have := HZL.out
                  omega
              · rw [List.length_append, List.map_append]
                exact y3
              · rw [List.length_append, List.map_append]
                exact y2
              · simp [intOf]
                omega
        · have hin : i = L.length := by omega
          subst hin
          obtain ⟨a2, c2, rfl⟩ : ∃ a c, vo2 = .slice a L2.length c := by
            rcases hh2.rows.outs.shape with ⟨rfl, hl, _⟩ | ⟨go, co, rfl, _⟩
            · exact ⟨none, 0, by rw [hl]⟩
            · exact ⟨_, _, rfl⟩
          have hh2h : wA.heap[h]? = some (.cells #[av, bv, .slice a2 L2.length c2, vw2, .int .i64 (fr : Int)] 71 (0, 0)) := hh2.rows.head
          have hc1 : wA.cell? ⟨h, 2, none⟩ = some (.slice a2 L2.length c2) := cell_is hh2h 2 rfl
          have hc2 : wA.cell? ⟨h, 4, none⟩ = some (.int .i64 (fr : Int)) := cell_is hh2h 4 rfl
          have hz2 := frozen_of hh2h 4
          obtain ⟨hh3, hf3⟩ := held_fresh hh2 (.int .i64 (L2.length : Int))
          have HO3 := Lib.hid (holds_any _ h av bv _ vw2 (.int .i64 (L2.length : Int)) L2 hh3.rows (fun j e he => ⟨(hh3.pile.rd j e he).1.1, (hh3.pile.rd j e he).2.1⟩) (fun j e he => by have := hlim2 j e he; omega) (by omega))
          have HH3 := Lib.hid hh3
          have HF4 := Lib.hid (hf2.trans hf3 (fun _ _ h => h))
          have HLM := Lib.hid hlim2
          have HL2 := Lib.hid hl2
          clear hh2 hlim2 hf2 hh2h hh3 hf3 hl2 hlt2
          go_wp2_with (fail)
          refine HO3.out.mono ?_
          rintro e w3 ⟨rfl, m3, rfl⟩
          have HH4 := Lib.hid (HH3.out.none ((Fr.refl _ _).drewN m3))
          have HF5 := Lib.hid (HF4.out.drewN m3)
          clear HO3
          go_wp2_with (fail)
          go_ret
          exact ⟨rfl, _, _, L2, ⟨HH4.out.rows, HH4.out.pile.lift (fun j hj hj2 => by omega)⟩, HLM.out, HL2.out, HF5.out⟩

end Go.Proofs.Ytikimfdijkejpaa.HT
