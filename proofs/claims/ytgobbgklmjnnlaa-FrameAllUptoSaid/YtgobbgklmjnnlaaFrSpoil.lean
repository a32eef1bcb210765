/- The laws' list of what was handed out: spoil. -/
import Derived.Test.YtgobbgklmjnnlaaFrHeld
namespace Go.Proofs.Ytgobbgklmjnnlaa
open Go.RowKit Go.Sb

def Lim (M : Nat) (L : List Ent) : Prop := ∀ (j : Nat) (e : Ent), L[j]? = some e → e.xs.length ≤ M

/-- marks are written into all of them -/
def MarkRel (F : Nat → Prop) (w : World) (h n M : Nat) (vo vw : Value) (i : Value) (wr : World) : Prop :=
  ∃ (k : Nat) (L : List Ent), i = .int .i64 (k : Int) ∧ k ≤ n ∧ L.length = n ∧ Lim M L ∧ Held 29 22 5 F wr (fun _ => True) h vo vw [] L ∧ Fr F w wr

/-- .. into one -/
def MarkIn (F : Nat → Prop) (w : World) (h n M j m : Nat) (vo vw : Value) (i : Value) (wr : World) : Prop :=
  ∃ (k : Nat) (L : List Ent) (e : Ent), i = .int .i64 (k : Int) ∧ k ≤ m ∧ L.length = n ∧ Lim M L ∧ L[j]? = some e ∧ e.xs.length = m ∧ Held 29 22 5 F wr (fun _ => True) h vo vw [] L ∧ Fr F w wr

/-- they are lengthened, one after the other -/
def GrowRel (F : Nat → Prop) (w : World) (h n M : Nat) (i : Value) (wr : World) : Prop :=
  ∃ (k : Nat) (L : List Ent) (vo vw : Value), i = .int .i64 (k : Int) ∧ k ≤ n ∧ L.length = n + k ∧ (∀ (j : Nat) (e : Ent), j < n → L[j]? = some e → e.xs.length ≤ M) ∧ Held 29 22 5 F wr (fun j => k ≤ j ∧ j < n) h vo vw [] L ∧ Fr F w wr

/-- .. one, byte by byte -/
def GrowIn (F : Nat → Prop) (w0 : World) (o : Value) (xs : List UInt8) (i l m : Value) (wr : World) : Prop :=
  ∃ (k : Nat) (zs : List UInt8), i = .int .i64 (k : Int) ∧ k ≤ 100 ∧ zs.length = xs.length + k ∧ GrowSt 5 F w0 wr o l m xs zs zs

theorem u8_of (z : Int) : ∃ c : UInt8, IntKind.u8.wrap z = (c.toNat : Int) := by
  refine ⟨UInt8.ofNat (z % 256).toNat, ?_⟩
  have h : IntKind.u8.wrap z = z % 256 := by simp [IntKind.wrap, IntKind.signed, IntKind.bits]
  rw [h, UInt8.toNat_ofNat']
  omega

/-- two stores of one byte -/
theorem mark_step {F : Nat → Prop} {wr : World} {h j k : Nat} {vo vw : Value} {L : List Ent} {e : Ent} (hh : Held 29 22 5 F wr (fun _ => True) h vo vw [] L) (he : L[j]? = some e) (hk : k < e.xs.length) (c : UInt8)
    {go gw : Nat} (hgo : e.out.ownBlock = some go) (hgw : e.want.ownBlock = some gw) :
    Held 29 22 5 F ((wr.setCell ⟨go, k, none⟩ (byte c)).setCell ⟨gw, k, none⟩ (byte c)) (fun _ => True) h vo vw [] (L.set j ⟨e.out, e.want, e.xs.set k c⟩) ∧ Fr F wr ((wr.setCell ⟨go, k, none⟩ (byte c)).setCell ⟨gw, k, none⟩ (byte c)) := by
  obtain ⟨h1, h2, h3⟩ := hh.pile.act j e trivial he
  have hne : go ≠ gw := fun h => h3 go hgo (h ▸ hgw)
  have hf : Fr (fun k => e.out.ownBlock = some k ∨ e.want.ownBlock = some k) wr ((wr.setCell ⟨go, k, none⟩ (byte c)).setCell ⟨gw, k, none⟩ (byte c)) :=
    ((Fr.refl _ wr).setCell (.inl (.inl hgo)) _).setCell (.inl (.inr hgw)) _
  have ho : OB 5 F ((wr.setCell ⟨go, k, none⟩ (byte c)).setCell ⟨gw, k, none⟩ (byte c)) e.out (e.xs.set k c) := by
    have h4 : OB 5 F (wr.setCell ⟨go, k, none⟩ (byte c)) e.out (e.xs.set k c) := by
      unfold OB
      rw [List.length_set, List.map_set]
      exact Own.set h1 hgo hk
    exact OB.of h4 (fun i hi => heap_setCell_ne _ _ _ _ (fun h => by rw [hgo, Option.some.injEq] at hi; exact hne (hi.trans h)))
  have hw : OB 5 F ((wr.setCell ⟨go, k, none⟩ (byte c)).setCell ⟨gw, k, none⟩ (byte c)) e.want (e.xs.set k c) := by
    have h4 : OB 5 F (wr.setCell ⟨go, k, none⟩ (byte c)) e.want e.xs := OB.of h2 (fun i hi => heap_setCell_ne _ _ _ _ (fun h => by rw [hgw, Option.some.injEq] at hi; exact hne (hi.trans h).symm))
    unfold OB
    rw [List.length_set, List.map_set]
    exact Own.set h4 hgw hk
  have hF : Fr F wr ((wr.setCell ⟨go, k, none⟩ (byte c)).setCell ⟨gw, k, none⟩ (byte c)) := hf.mono (fun i _ hi => hi.elim (fun hi => (Own.block h1 i hi).1) (fun hi => (Own.block h2 i hi).1))
  have hr := hh.rows.bytes hf (E := 5) (fun i _ hi => by
    rcases hi with hi | hi
    · exact (h1.rd.2 i hi).2
    · exact (h2.rd.2 i hi).2) (by decide) (by decide)
  refine ⟨⟨⟨hr.head, hr.mine, ?_, ?_, hr.apart⟩, hh.pile.change trivial he hf ho hw⟩, hF⟩
  · rw [List.length_set, List.map_set]
    have : (L.map (·.out)).set j e.out = L.map (·.out) := by
      apply List.ext_getElem?
      intro i
      rw [List.getElem?_set]
      split
      · subst_vars
        rw [List.getElem?_map, he]
        simp
        exact (List.getElem?_eq_some_iff.1 he).1
      · rfl
    rw [this]
    exact hr.outs
  · rw [List.length_set, List.map_set]
    have : (L.map (·.want)).set j e.want = L.map (·.want) := by
      apply List.ext_getElem?
      intro i
      rw [List.getElem?_set]
      split
      · subst_vars
        rw [List.getElem?_map, he]
        simp
        exact (List.getElem?_eq_some_iff.1 he).1
      · rfl
    rw [this]
    exact hr.wants

set_option maxRecDepth 100000 in
set_option maxHeartbeats 1000000 in
theorem spoil_any {F : Nat → Prop} (w : World) (h M : Nat) (vo vw : Value) (L : List Ent) (hh : Held 29 22 5 F w (fun _ => True) h vo vw [] L) (hF : ∀ k, w.heap.size ≤ k → F k) (hM : M ≤ 140737488359000) (hl : Lim M L) (hn : L.length ≤ 549755813888) :
    Calls Try.prog 23 #[.pointer (some ⟨h, 0, none⟩)] w fun e w' => e = .returned (.bool true) ∧ Fr F w w' := by
  have hc0 : w.cell? ⟨h, 0, none⟩ = some vo := cell_is hh.rows.head 0 rfl
  have HO := Lib.hid (holds_any w h vo vw L hh.rows (fun j e he => ⟨(hh.pile.rd j e he).1.1, (hh.pile.rd j e he).2.1⟩) (by omega))
  have HH := Lib.hid hh
  have HL := Lib.hid hl
  have hvo : ∃ ao co, vo = .slice ao L.length co := by
    rcases hh.rows.outs.shape with ⟨rfl, hl, _⟩ | ⟨go, co, rfl, _⟩
    · exact ⟨none, 0, by rw [hl]⟩
    · exact ⟨_, _, rfl⟩
  obtain ⟨ao, co, hvo⟩ := hvo
  subst hvo
  clear hh hl
  go_enter Try.func23, Try.ntmps23
  go_wp2_with (fail)
  refine HO.out.mono ?_
  rintro e w1 ⟨rfl, m1, rfl⟩
  go_wp2_with (fail)
  go_loopw [4] (fun i wr => MarkRel F w h L.length M (.slice ao L.length co) vw i wr) (fun i _ => L.length - (intOf i).toNat)
  case atStart => exact ⟨0, L, rfl, Nat.zero_le _, rfl, HL.out, HH.out.none ((Fr.refl _ _).drewN m1), (Fr.refl _ _).drewN m1⟩
  case round =>
    obtain ⟨i, L1, rfl, hi, hl1, hlim, hh1, hf1⟩ := hrel
    by_cases hlt : i < L.length
    · have he : L1[i]? = some (L1[i]'(by omega)) := List.getElem?_eq_getElem (by omega)
      have hc1 : wr.cell? ⟨h, 0, none⟩ = some (.slice ao L.length co) := cell_is hh1.rows.head 0 rfl
      obtain ⟨go, co', hvo, _, _⟩ := Own.some hh1.rows.outs (by omega)
      obtain ⟨rfl, hz1, rfl⟩ : ao = some ⟨go, 0, none⟩ ∧ L.length = L1.length ∧ co = co' := by simpa using hvo
      obtain ⟨gw, cw, hvw, _, _⟩ := Own.some hh1.rows.wants (by omega)
      subst hvw
      have HMI := Lib.hid (show MarkIn F w h L.length M i (L1[i]'(by omega)).xs.length (.slice (some ⟨go, 0, none⟩) L.length co) (.slice (some ⟨gw, 0, none⟩) L1.length cw) (.int .i64 0) wr from ⟨0, L1, _, rfl, Nat.zero_le _, hl1, hlim, he, rfl, hh1, hf1⟩)
      have hmm : (L1[i]'(by omega)).xs.length ≤ M := hlim i _ he
      clear hh1 hlim hf1 he hc1
      generalize (L1[i]'(by omega)).xs.length = m at *
      rw [← hz1] at *
      clear hvo hz1 hl1 L1
      go_wp2_with (fail)
      go_loopw [5] (fun k wr2 => MarkIn F w h L.length M i m (.slice (some ⟨go, 0, none⟩) L.length co) (.slice (some ⟨gw, 0, none⟩) L.length cw) k wr2) (fun k _ => m - (intOf k).toNat)
      case atStart => exact HMI.out
      case round =>
        obtain ⟨k, L2, e2, rfl, hk, hl2, hlim2, he2, hm2, hh2, hf2⟩ := hrel
        obtain ⟨a1, a2, a3⟩ := hh2.pile.act i e2 trivial he2
        have hc1 : wr.cell? ⟨h, 0, none⟩ = some (.slice (some ⟨go, 0, none⟩) L.length co) := cell_is hh2.rows.head 0 rfl
        have hc2 : wr.cell? ⟨h, 1, none⟩ = some (.slice (some ⟨gw, 0, none⟩) L.length cw) := cell_is hh2.rows.head 1 rfl
        have hc3 : wr.cell? ⟨go, i, none⟩ = some e2.out := hh2.rows.outs.cell rfl (by rw [List.getElem?_map, he2]; rfl)
        have hc4 : wr.cell? ⟨gw, i, none⟩ = some e2.want := hh2.rows.wants.cell rfl (by rw [List.getElem?_map, he2]; rfl)
        by_cases hkm : k < m
        · obtain ⟨g2, c2, hg2, _, _⟩ := Own.some a1 (by omega)
          obtain ⟨g3, c3, hg3, _, _⟩ := Own.some a2 (by omega)
          obtain ⟨c, hc⟩ := u8_of ((i : Int) * 7 + 1)
          have hb2 : e2.out.ownBlock = some g2 := by rw [hg2]; rfl
          have hb3 : e2.want.ownBlock = some g3 := by rw [hg3]; rfl
          have hs := mark_step hh2 he2 (k := k) (by omega) c hb2 hb3
          have hc5 : wr.cell? ⟨g2, k, none⟩ = some (byte (e2.xs[k]'(by omega))) := Own.cell a1 hb2 (by simp [hm2, hkm])
          have hc6 : wr.cell? ⟨g3, k, none⟩ = some (byte (e2.xs[k]'(by omega))) := Own.cell a2 hb3 (by simp [hm2, hkm])
          have hz2 := Own.frozen a1 hb2 k
          have hz3 := Own.frozen a2 hb3 k
          rw [hg2, hm2] at hc3
          rw [hg3, hm2] at hc4
          have n1 : h ≠ g2 := by
            obtain ⟨_, cs, hh⟩ := a1.rd.2 g2 hb2
            exact ne_of_types hh2.rows.head hh (by decide)
          have n3 : g2 ≠ g3 := fun h => a3 g2 hb2 (h ▸ hb3)
          have n4 : gw ≠ g2 := by
            obtain ⟨_, cs, hh⟩ := a1.rd.2 g2 hb2
            rintro rfl
            rcases hh2.rows.wants.2 with ⟨h, _⟩ | ⟨g, cap, cur, he, _, hgg, _⟩
            · cases h
            · simp only [Value.slice.injEq, Option.some.injEq, Addr.mk.injEq] at he
              obtain ⟨⟨rfl, _⟩, _⟩ := he
              exact ne_of_types hgg hh (by decide) rfl
          have HS := Lib.hid hs
          have HF2 := Lib.hid hf2
          have HB : Hid (L2.length = L.length ∧ Lim M L2 ∧ L2[i]? = some e2 ∧ e2.xs.length = m) := ⟨hl2, hlim2, he2, hm2⟩
          generalize byte (e2.xs[k]'(by omega)) = ob at hc5 hc6
          clear hs hf2 hl2 hlim2 he2 hh2 a1 a2 a3 hb2 hb3 hg2 hg3
          go_wp2_with (fail)
          go_roundw
          case rel =>
            obtain ⟨b1, b2, b3, b4⟩ := HB.out
            refine ⟨k + 1, L2.set i ⟨e2.out, e2.want, e2.xs.set k c⟩, ⟨e2.out, e2.want, e2.xs.set k c⟩, rfl, hkm, by rw [List.length_set]; exact b1, ?_, ?_, by simpa using b4, HS.out.1, HF2.out.trans HS.out.2 (fun _ _ h => h)⟩
            · intro j e he
              rcases get_set he with ⟨_, rfl, _⟩ | ⟨_, he⟩
              · simpa using b2 i e2 b3
              · exact b2 j e he
            · rw [List.getElem?_set_self (List.getElem?_eq_some_iff.1 b3).1]
          case measure => simp [intOf]; omega
        · have hkm2 : k = m := by omega
          subst hkm2
          obtain ⟨g2, c2, hg2⟩ : ∃ a c, e2.out = .slice a k c := by
            rcases a1.shape with ⟨h, h0, _⟩ | ⟨g, c, h, _⟩
            · exact ⟨none, 0, by rw [h]; congr 1; omega⟩
            · exact ⟨_, _, by rw [h, hm2]⟩
          rw [hg2] at hc3
          have HX := Lib.hid (show MarkRel F w h L.length M (.slice (some ⟨go, 0, none⟩) L.length co) (.slice (some ⟨gw, 0, none⟩) L.length cw) (.int .i64 ((i + 1 : Nat) : Int)) wr from ⟨i + 1, L2, rfl, hlt, hl2, hlim2, hh2, hf2⟩)
          clear hh2 a1 a2 a3 hf2 hlim2 he2 hg2
          go_wp2_with (fail)
          go_roundw
          case rel => exact HX.out
          case measure => simp [intOf]; omega
    · have hin : i = L.length := by omega
      subst hin
      have HO2 := Lib.hid (holds_any wr h _ vw L1 hh1.rows (fun j e he => ⟨(hh1.pile.rd j e he).1.1, (hh1.pile.rd j e he).2.1⟩) (by omega))
      have HH1 := Lib.hid hh1
      have HF1 := Lib.hid hf1
      have HL1 := Lib.hid hlim
      have HN1 := Lib.hid hl1
      clear hh1 hf1 hlim hl1
      go_wp2_with (fail)
      refine HO2.out.mono ?_
      rintro e w2 ⟨rfl, m2, rfl⟩
      have HF2 := Lib.hid (HF1.out.drewN m2)
      have HH2 := Lib.hid (HH1.out.none ((Fr.refl _ _).drewN m2))
      clear HF1 HH1 HO HO2
      generalize wr.drewN m2 = w2 at *
      go_wp2_with (fail)
      go_loopw [6] (fun i wr => GrowRel F w h L.length M i wr) (fun i _ => L.length - (intOf i).toNat)
      case atStart =>
        exact ⟨0, L1, _, _, rfl, Nat.zero_le _, HN1.out, fun j e _ he => HL1.out j e he, ⟨HH2.out.rows, HH2.out.pile.sub (fun _ _ => trivial)⟩, HF2.out⟩
      case round =>
        obtain ⟨i, L2, vo2, vw2, rfl, hi, hl2, hlim2, hh2, hf2⟩ := hrel
        rename World => wA
        by_cases hlt : i < L.length
        · have he : L2[i]? = some (L2[i]'(by omega)) := List.getElem?_eq_getElem (by omega)
          generalize L2[i]'(by omega) = e2 at he
          obtain ⟨a1, a2, a3⟩ := hh2.pile.act i e2 ⟨Nat.le_refl _, hlt⟩ he
          obtain ⟨go, co2, hvo2, _, _⟩ := Own.some hh2.rows.outs (by omega)
          obtain ⟨gw, cw2, hvw2, _, _⟩ := Own.some hh2.rows.wants (by omega)
          subst hvo2 hvw2
          have hc1 : wA.cell? ⟨h, 0, none⟩ = some (.slice (some ⟨go, 0, none⟩) L2.length co2) := cell_is hh2.rows.head 0 rfl
          have hc2 : wA.cell? ⟨h, 1, none⟩ = some (.slice (some ⟨gw, 0, none⟩) L2.length cw2) := cell_is hh2.rows.head 1 rfl
          have hc3 : wA.cell? ⟨go, i, none⟩ = some e2.out := hh2.rows.outs.cell rfl (by rw [List.getElem?_map, he]; rfl)
          have hc4 : wA.cell? ⟨gw, i, none⟩ = some e2.want := hh2.rows.wants.cell rfl (by rw [List.getElem?_map, he]; rfl)
          have hi2 : (i : Int) < (L2.length : Int) := by omega
          have hme := hlim2 i e2 hlt he
          obtain ⟨c, hc⟩ := u8_of ((i : Int) * 7 + 2)
          have HC := Lib.hid (copied_any e2.want e2.xs wA a2.rb (by omega))
          have HA1 := Lib.hid a1
          have HH2' := Lib.hid hh2
          have HE := Lib.hid he
          have HLM := Lib.hid hlim2
          have HF3 := Lib.hid hf2
          have hs0 := hf2.size
          have hF2 : ∀ k, wA.heap.size ≤ k → F k := fun k hk => hF k (Nat.le_trans hs0 hk)
          obtain ⟨xe, ce, hxe⟩ : ∃ a c, e2.out = .slice a e2.xs.length c := by
            obtain ⟨a, c, h, _⟩ := a1.rb
            exact ⟨a, c, h⟩
          have hoz : ∀ b off s n cc, e2.out = .slice (some ⟨b, off, s⟩) n cc → off = 0 := by
            intro b off s n cc h
            rcases a1.shape with ⟨h2, _⟩ | ⟨g, c, h2, _⟩
            · rw [h2] at h; cases h
            · rw [h2] at h
              simp only [Value.slice.injEq, Option.some.injEq, Addr.mk.injEq] at h
              exact h.1.2.1.symm
          clear hh2 a1 a2 a3 hf2 hlim2 he
          go_wp2_with (fail)
          refine HC.out.mono ?_
          rintro e w9 ⟨v9, rfl, hv9, hf9, _⟩
          have HG0 : Hid (GrowSt 5 F wA w9 e2.out e2.out v9 e2.xs e2.xs e2.xs) :=
            ⟨HA1.out.rd.of (fun k hk => hf9.block k (Own.block HA1.out k hk).2 (fun h => h)), hoz, OB.of HA1.out (fun k hk => hf9.block k (Own.block HA1.out k hk).2 (fun h => h)), Own.mono hv9 (fun k _ hk => hF2 k hk), ⟨[], by simp⟩,
              fun k hk => .inl hk, fun k hk => (Own.block hv9 k hk).1, fun k hk => (Own.block HA1.out k hk).2, fun k hk hk' => by have := (Own.block HA1.out k hk).2; have := (Own.block hv9 k hk').1; omega, hf9.mono (fun _ _ h => h.elim)⟩
          clear hv9 hf9
          go_wp2_with (fail)
          go_loopw [9, 7, 8] (fun i l m wr' => ∃ ll mm, ll = l ∧ mm = m ∧ GrowIn F wA e2.out e2.xs i ll mm wr') (fun i _ _ _ => 100 - (intOf i).toNat)
          case atStart => exact ⟨_, _, rfl, rfl, 0, e2.xs, rfl, by omega, rfl, by rw [← hxe]; exact HG0.out⟩
          case round =>
            obtain ⟨ll, mm, rfl, rfl, k, zs, rfl, hk, hz, hst⟩ := hrel
            have HG := Lib.hid hst
            by_cases hk1 : k < 100
            · clear hst
              go_wp2_with (first
                | (at_builtin; refine wpList_append_Own _ rfl _ _ 22 rfl 5 (.int .u8 0) 1 1 Try.underlying22 Try.info5 rfl (by decide) ll zs.length (zs.map byte) rfl (HG.out.ol.alloc _) (.slice (some ⟨wr.heap.size, 0, none⟩) 1 1) 1 ([c].map byte) rfl (src_one wr c 5) (by unfold maxLen; omega) (by omega) ?_; intro v3 w3 hv3 hf3 hn3 hd3; have HG1 := Lib.hid (HG.out.stepL hF2 hv3 hf3 hd3); clear hv3 hf3 hn3 hd3)
                | (at_builtin; refine wpList_append_Own _ rfl _ _ 22 rfl 5 (.int .u8 0) 1 1 Try.underlying22 Try.info5 rfl (by decide) mm zs.length (zs.map byte) rfl (HG1.out.om.alloc _) (.slice (some ⟨w3.heap.size, 0, none⟩) 1 1) 1 ([c].map byte) rfl (src_one w3 c 5) (by unfold maxLen; omega) (by omega) ?_; intro v4 w4 hv4 hf4 hn4 hd4; have HG2 := Lib.hid (HG1.out.stepM hF2 hv4 hf4 hd4); clear hv4 hf4 hn4 hd4))
              go_roundw
              case rel => exact ⟨_, _, rfl, rfl, k + 1, zs ++ [c], rfl, hk1, by simp [hz]; omega, HG2.out⟩
              case measure => simp [intOf]; omega
            · have hk2 : k = 100 := by omega
              subst hk2
              have hr3 := HH2'.out.rows.bytes hst.fr (fun j _ ho => (HA1.out.rd.2 j ho).2) (by decide) (by decide)
              have HP3 := Lib.hid (HH2'.out.pile.grow (j := i) ⟨Nat.le_refl _, hlt⟩ HE.out hst.fr hst.ro hst.ol.rd hst.om.rd hst.lb hst.mb)
              have hcell : wr.cell? ⟨h, 0, none⟩ = some (.slice (some ⟨go, 0, none⟩) L2.length co2) := cell_is hr3.head 0 rfl
              have HH1 := Lib.hid hr3.head
              have HR1 := Lib.hid hr3
              have hno := own_ne (R := 22) hr3.head (by decide) hr3.outs
              have hs3 := hst.fr.size
              have HFA := Lib.hid (HF3.out.trans hst.fr (fun k _ hk => (Own.block HA1.out k hk).1))
              have hF3 : ∀ k, wr.heap.size ≤ k → F k := fun k hk => hF2 k (Nat.le_trans hs3 hk)
              have hnn : L2.length ≤ 1099511627776 := by omega
              obtain ⟨xl, cl, rfl, _⟩ := hst.ol.rb
              obtain ⟨xm, cm, rfl, _⟩ := hst.om.rb
              have HL2 := Lib.hid hl2
              clear hst hr3 HG hc1 hc2 hc3 hc4 hxe hoz hz hl2
              go_wp2_with (first
                | (at_builtin; refine wpList_append_Own _ rfl _ _ 27 rfl 22 (.slice none 0 0) 1 24 Try.underlying27 Try.info22 rfl (by decide) (.slice (some ⟨go, 0, none⟩) L2.length co2) L2.length (L2.map (·.out)) rfl (HR1.out.outs.alloc _) (.slice (some ⟨wr.heap.size, 0, none⟩) 1 1) 1 [.slice xl zs.length cl] rfl (src_val wr (.slice xl zs.length cl) 22 rfl) (by unfold maxLen; omega) (by omega) ?_; intro v5 w5 hv5 hf5 hn5 hd5; have hh5 : w5.heap[h]? = some (.cells #[.slice (some ⟨go, 0, none⟩) L2.length co2, .slice (some ⟨gw, 0, none⟩) L2.length cw2] 29 (0, 0)) := hf5.get ((heap_alloc_lt _ _ _ (lt_of_heap HH1.out)).trans HH1.out) hno; have hc5 : w5.cell? ⟨h, 0, none⟩ = some (.slice (some ⟨go, 0, none⟩) L2.length co2) := cell_is hh5 0 rfl; have hc6 : w5.cell? ⟨h, 1, none⟩ = some (.slice (some ⟨gw, 0, none⟩) L2.length cw2) := cell_is hh5 1 rfl; have hz5 := frozen_of hh5 0; obtain ⟨g5, k5, rfl, _, _⟩ := hv5.some (by omega); have HX := Lib.hid (row_grown (j := 0) HH1.out (by decide) HR1.out.outs HR1.out.wants HR1.out.apart hF3 hv5 hf5 hd5); clear hv5 hf5 hn5 hd5 hh5)
                | (at_builtin; refine wpList_append_Own _ rfl _ _ 27 rfl 22 (.slice none 0 0) 1 24 Try.underlying27 Try.info22 rfl (by decide) (.slice (some ⟨gw, 0, none⟩) L2.length cw2) L2.length (L2.map (·.want)) rfl (HX.out.2.2.1.alloc _) (.slice (some ⟨w5.heap.size, 0, none⟩) 1 1) 1 [.slice xm zs.length cm] rfl (src_at _ _ (.slice xm zs.length cm) 22 rfl (by simp)) (by unfold maxLen; omega) (by omega) ?_; intro v6 w6 hv6 hf6 hn6 hd6; obtain ⟨g6, k6, rfl, _, _⟩ := hv6.some (by omega); have hno6 := own_ne HX.out.1 (by decide) HX.out.2.2.1; have hh6 := hf6.get ((heap_alloc_lt _ _ _ (lt_of_heap HX.out.1)).trans HX.out.1) hno6; have hc7 : w6.cell? ⟨h, 1, none⟩ = some (.slice (some ⟨gw, 0, none⟩) L2.length cw2) := cell_is hh6 1 rfl; have hz6 := frozen_of hh6 1; have HY := Lib.hid (row_grown (j := 1) HX.out.1 (by decide) HX.out.2.2.1 HX.out.2.1 HX.out.2.2.2.1.symm (fun k hk => hF3 k (Nat.le_trans HX.out.2.2.2.2.size hk)) hv6 hf6 hd6); clear hv6 hf6 hn6 hd6 hh6))
              go_roundw
              case rel =>
                obtain ⟨x1, x2, x3, x4, x5⟩ := HX.out
                obtain ⟨y1, y2, y3, y4, y5⟩ := HY.out
                have hfr : Fr (HRows.at h (.slice (some ⟨go, 0, none⟩) L2.length co2) (.slice (some ⟨gw, 0, none⟩) L2.length cw2)) wr _ := (x5.mono (fun k _ hk => hk.imp id .inl)).trans y5 (fun k _ hk => hk.imp id .inr)
                have hp := HR1.out.pile HP3.out hfr (by decide) (by decide)
                refine ⟨i + 1, L2 ++ [⟨.slice xl zs.length cl, .slice xm zs.length cm, zs⟩], _, _, rfl, hlt, by have := HL2.out; simp; omega, ?_, ⟨⟨y1, HR1.out.mine, ?_, ?_, y4.symm⟩, hp.lift (fun j hj hj2 => ⟨⟨by omega, hj2.2⟩, by omega, by have := HL2.out; omega⟩)⟩, HFA.out.trans (HR1.out.frF hfr) (fun _ _ h => h)⟩
                · intro j e hj he
                  rcases get_snoc he with ⟨he, _⟩ | ⟨hj2, _⟩
                  · exact HLM.out j e hj he
                  · have := HL2.out; omega
                · rw [List.length_append, List.map_append]
                  exact y3
                · rw [List.length_append, List.map_append]
                  exact y2
              case measure => simp [intOf]; omega
        · have hin : i = L.length := by omega
          subst hin
          have HO3 := Lib.hid (holds_any wA h vo2 vw2 L2 hh2.rows (fun j e he => ⟨(hh2.pile.rd j e he).1.1, (hh2.pile.rd j e he).2.1⟩) (by omega))
          have HF4 := Lib.hid hf2
          clear hh2 hlim2 hf2
          go_wp2_with (fail)
          refine HO3.out.mono ?_
          rintro e w3 ⟨rfl, m3, rfl⟩
          go_wp2_with (fail)
          go_ret
          exact ⟨rfl, HF4.out.drewN m3⟩

end Go.Proofs.Ytgobbgklmjnnlaa
