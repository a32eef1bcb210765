/- THE WALK of HeapShares. -/
import Derived.Test.YtikimfdijkejpaaHBClone
import Derived.Test.YtikimfdijkejpaaHpShown
import Derived.Lib.Builder
namespace Go.Proofs.Ytikimfdijkejpaa
open Go.RowKit Go.Sb Go.Proofs.Ytikimfdijkejpaa.HB

theorem info3' : (Try.prog.info? 3).map (fun i => (i.zero, i.size, i.bytes)) = some (some (.int .i64 0), 1, 8) := by kernel_rfl

theorem src_fr {w w' : World} {x : Value} {m sz : Nat} {news : List Value} (h : Src w x m sz news) (hf : Fr (fun _ => False) w w') : Src w' x m sz news := by
  obtain ⟨h1, h2, h3⟩ := h
  refine ⟨h1, h2, h3.imp id ?_⟩
  rintro ⟨ad, c, rfl, h4⟩
  exact ⟨ad, c, rfl, fun j u hu => cell_fr hf (h4 j u hu) id⟩

/-- The numbers' block, which the boxes point to. -/
def NumsAt (gA : Nat) (zs : List Int) (W : World) : Prop := ∃ cur : Array Value, W.heap[gA]? = some (.cells cur 3 (0, 0)) ∧ ∀ j (h : j < zs.length), cur[j]? = some (.int .i64 (zs[j]'h))
def boxKey (zs : List Int) (x : Addr) : Int := zs.getD x.off 0
def boxOk (gA n : Nat) (x : Addr) : Prop := ∃ k, k < n ∧ x = ⟨gA, k, none⟩

set_option maxRecDepth 100000 in
set_option maxHeartbeats 1000000 in
theorem light_spec (gA : Nat) (zs : List Int) : BSpec Try.prog 10 #[] thV (boxOk gA zs.length) (bk (boxKey zs)) (fun _ W => NumsAt gA zs W) (fun k => k = gA) := by
  refine ⟨fun x y c W hx hy hst => ?_, enters_of Try.func10 (by kernel_rfl) rfl, fun c W W' G hst hf hn => ?_⟩
  · obtain ⟨i, hi, rfl⟩ := hx
    obtain ⟨j, hj, rfl⟩ := hy
    have hst0 := hst
    obtain ⟨cur, hc, hz⟩ := hst
    have hgl := lt_of_heap hc
    have c1 : W.cell? ⟨gA, i, none⟩ = some (.int .i64 (zs[i]'hi)) := cell_is hc i (hz i hi)
    have c2 : W.cell? ⟨gA, j, none⟩ = some (.int .i64 (zs[j]'hj)) := cell_is hc j (hz j hj)
    have hk : bk (boxKey zs) ⟨gA, i, none⟩ ⟨gA, j, none⟩ = decide ((zs[i]'hi) < (zs[j]'hj)) := by
      unfold bk boxKey
      simp only [List.getD_eq_getElem?_getD, List.getElem?_eq_getElem hi, List.getElem?_eq_getElem hj, Option.getD_some]
    rw [hk]
    have HST := Lib.hid hst0
    clear hst0 hc hz hk
    generalize zs[i]'hi = a at *
    generalize zs[j]'hj = b at *
    show Calls Try.prog 10 #[.agg #[.pointer (some ⟨gA, i, none⟩)], .agg #[.pointer (some ⟨gA, j, none⟩)]] W _
    go_enter Try.func10, Try.ntmps10
    go_wp2_with (fail)
    have hf1 : Fr (fun _ => False) W ((W.alloc (.cells #[.pointer (some ⟨gA, i, none⟩)] 28)).alloc (.cells #[.pointer (some ⟨gA, j, none⟩)] 28)) := ((Fr.refl _ _).alloc _).alloc _
    have d1 := cell_fr hf1 c1 id
    have d2 := cell_fr hf1 c2 id
    have x1 : ((W.alloc (.cells #[.pointer (some ⟨gA, i, none⟩)] 28)).alloc (.cells #[.pointer (some ⟨gA, j, none⟩)] 28)).cell? ⟨W.heap.size, 0, none⟩ = some (.pointer (some ⟨gA, i, none⟩)) := cell_is ((heap_alloc_lt _ _ _ (by simp)).trans (heap_alloc_eq W _)) 0 rfl
    have x2 : ((W.alloc (.cells #[.pointer (some ⟨gA, i, none⟩)] 28)).alloc (.cells #[.pointer (some ⟨gA, j, none⟩)] 28)).cell? ⟨W.heap.size + 1, 0, none⟩ = some (.pointer (some ⟨gA, j, none⟩)) := by
      have := heap_alloc_eq (W.alloc (.cells #[.pointer (some ⟨gA, i, none⟩)] 28)) (.cells #[.pointer (some ⟨gA, j, none⟩)] 28)
      rw [World.size_alloc] at this
      exact cell_is this 0 rfl
    have HF1 := Lib.hid hf1
    clear c1 c2 hf1
    generalize ((W.alloc (.cells #[.pointer (some ⟨gA, i, none⟩)] 28)).alloc (.cells #[.pointer (some ⟨gA, j, none⟩)] 28)) = W1 at *
    go_quiet (fail)
    go_wp2_with (fail)
    go_ret
    refine ⟨rfl, (HF1.out.mono (fun _ _ h => h.elim)).drewN _, ?_⟩
    obtain ⟨cur, hc, hz⟩ := HST.out
    exact ⟨cur, HF1.out.get hc id, hz⟩
  · obtain ⟨cur, hc, hz⟩ := hst
    exact ⟨cur, hf.get hc (hn gA rfl), hz⟩

/-- The boxes with their tickets, as they were laid in. -/
def boxesTo (gA k : Nat) : List (Int × Addr) := (List.range k).map (fun i : Nat => ((i : Int) + 1, (⟨gA, i, none⟩ : Addr)))

theorem boxesTo_succ (gA k : Nat) : boxesTo gA (k + 1) = boxesTo gA k ++ [((k : Int) + 1, ⟨gA, k, none⟩)] := by
  unfold boxesTo
  rw [List.range_succ, List.map_append]
  rfl

theorem boxesTo_mem {gA k : Nat} {p : Int × Addr} (h : p ∈ boxesTo gA k) : ∃ i, i < k ∧ p = ((i : Int) + 1, ⟨gA, i, none⟩) := by
  obtain ⟨i, hi, rfl⟩ := List.mem_map.1 h
  exact ⟨i, List.mem_range.1 hi, rfl⟩

/-- The list of numbers that the statement made: its block, or none. -/
theorem all_shape {zs : List Int} {ln : Nat} {w2 w3 : World} {v3 : Value} (hz : zs.length = ln) (hv : Own 3 1 (ex (fun k => w2.heap.size ≤ k) w2) w3 v3 (0 + ln) ([] ++ zs.map (Value.int .i64))) (hf : Fr (fun k => (Value.slice none 0 0).ownBlock = some k) w2 w3) :
    ∃ aA gA cA, v3 = .slice aA ln cA ∧ (0 < ln → aA = some ⟨gA, 0, none⟩) ∧ ln ≤ cA ∧ cA ≤ maxLen ∧ (0 < ln → NumsAt gA zs w3) ∧ w2.heap.size ≤ gA ∧ (0 < ln → gA < w3.heap.size) ∧ Fr (fun _ => False) w2 w3 := by
  have hf' : Fr (fun _ => False) w2 w3 := hf.mono (fun k _ h => by cases h)
  rw [Nat.zero_add, List.nil_append] at hv
  rcases hv.2 with ⟨rfl, h0⟩ | ⟨g, cap, cur, rfl, hF, hg, hc1, hc2, hc3, hc4⟩
  · subst h0
    exact ⟨none, w2.heap.size, 0, rfl, fun h => absurd h (by omega), Nat.le_refl _, by simp [maxLen], fun h => absurd h (by omega), Nat.le_refl _, fun h => absurd h (by omega), hf'⟩
  · refine ⟨some ⟨g, 0, none⟩, g, cap, rfl, fun _ => rfl, hc1, hc2, fun _ => ⟨cur, hg, fun j hj => ?_⟩, hF.elim id id, fun _ => lt_of_heap hg, hf'⟩
    have h2 : (cur.toList.take (ln * 1))[j]? = some (.int .i64 (zs[j]'hj)) := by
      rw [hc4, List.getElem?_map, List.getElem?_eq_getElem hj]
      rfl
    rw [List.getElem?_take, if_pos (by omega)] at h2
    simpa using h2

def SF1 (w : World) (gA : Nat) : Nat → Prop := fun k => w.heap.size ≤ k ∧ k ≠ gA

def SRel1 (w : World) (gA ln : Nat) (zs : List Int) (bh bm : Nat) (s : Value) (wr : World) : Prop :=
  ∃ (k : Nat) (L : List (Int × Addr)) (lv : Value) (m : List (Int × Value)), s = .int .i64 (k : Int) ∧ k ≤ ln ∧ L.Perm (boxesTo gA k) ∧ HRep 85 87 2 (SF1 w gA) wr bh (.func (.func 10) #[] #[]) (k : Int) (L.map en) lv bm m ∧ (0 < ln → NumsAt gA zs wr) ∧ Fr (fun _ => False) w wr

/-- Both heaps, and the numbers' block. -/
structure SBoth (w : World) (gA ln : Nat) (bh bm bc bd : Nat) (L : List (Int × Addr)) (lv lv2 : Value) (m : List (Int × Value)) (wr : World) : Prop where
  h : HRep 85 87 2 (SF1 w gA) wr bh (.func (.func 10) #[] #[]) (ln : Int) (L.map en) lv bm m
  c : HRep 85 87 2 (fun k => 0 < ln → k ≠ gA) wr bc (.func (.func 10) #[] #[]) (ln : Int) (L.map en) lv2 bd m
  a : 0 < ln → ∃ cur : Array Value, wr.heap[gA]? = some (.cells cur 3 (0, 0)) ∧ ln ≤ cur.size
  fr : Fr (fun _ => False) w wr

theorem SBoth.kept {w : World} {gA ln bh bm bc bd : Nat} {L : List (Int × Addr)} {lv lv2 : Value} {m : List (Int × Value)} {wr wr' : World} (h : SBoth w gA ln bh bm bc bd L lv lv2 m wr) (hf : Fr (fun _ => False) wr wr') : SBoth w gA ln bh bm bc bd L lv lv2 m wr' :=
  ⟨h.h.fr hf (fun _ _ _ h => h), h.c.fr hf (fun _ _ _ h => h), fun h0 => by obtain ⟨cur, h1, h2⟩ := h.a h0; exact ⟨cur, hf.get h1 id, h2⟩, h.fr.trans hf (fun _ _ h => h)⟩

theorem SBoth.store {w : World} {gA ln bh bm bc bd : Nat} {L : List (Int × Addr)} {lv lv2 : Value} {m : List (Int × Value)} {wr : World} (h : SBoth w gA ln bh bm bc bd L lv lv2 m wr) (h0 : 0 < ln) (hg : w.heap.size ≤ gA) (k : Nat) (u : Value) : SBoth w gA ln bh bm bc bd L lv lv2 m (wr.setCell ⟨gA, k, none⟩ u) := by
  have hf : Fr (fun k => k = gA) wr (wr.setCell ⟨gA, k, none⟩ u) := (Fr.refl (fun k => k = gA) wr).setCell (p := ⟨gA, k, none⟩) (.inl rfl) _
  obtain ⟨cur, h1, h2⟩ := h.a h0
  exact ⟨h.h.fr hf (fun k _ hk e => hk.2 e), h.c.fr hf (fun k _ hk e => hk h0 e), fun _ => ⟨_, heap_setCell_eq k u h1, by simpa using h2⟩, h.fr.trans hf (fun k hk e => by omega)⟩

set_option maxRecDepth 100000 in
set_option maxHeartbeats 4000000 in
theorem shares_any (la : Option Addr) (ln lc : Nat) (zs : List Int) (tz : Int) (w : World) (hz : zs.length = ln) (hln : ln ≤ 1048576) (hs : Src w (.slice la ln lc) ln 1 (zs.map (Value.int .i64))) :
    Calls Try.prog 3 #[.slice la ln lc, .int .i64 tz] w fun e w' => e = .returned (.bool true) ∧ Fr (fun _ => False) w w' := by
  have HSRC := Lib.hid hs
  have HZ := Lib.hid hz
  clear hs hz
  go_enter Try.func3, Try.ntmps3
  go_wp2_with (first
    | (go_at_call 8; refine (HT.shown_any _).mono ?_; rintro e w1 ⟨rfl, hf1⟩; have HF1 := Lib.hid hf1; clear hf1)
    | (go_at_call 9; refine (new_any 10 #[] _).mono ?_; rintro e w2 ⟨bh, bm, rfl, hr, hf2⟩; have HR2 := Lib.hid hr; have HF2 : Hid (Fr (fun _ => False) w w2) := Lib.hid (HF1.out.trans hf2 (fun _ _ h => h)); clear hr hf2)
    | (at_builtin; refine wpList_append_Own _ rfl _ _ 22 rfl 3 (.int .i64 0) 1 8 Try.underlying22 info3' rfl (by decide) (.slice none 0 0) 0 [] rfl (Own.nil 3 1 (fun k => w2.heap.size ≤ k) _) (.slice la ln lc) ln (zs.map (Value.int .i64)) rfl (src_fr HSRC.out HF2.out) (by unfold maxLen; omega) (by omega) ?_; intro v3 w3 hv3 hf3 hn3 _; obtain ⟨aA, gA, cA, rfl, haA, hcA, hcM, hnA, hgw2, hgA, hfw3⟩ := all_shape HZ.out hv3 hf3; have HA := Lib.hid (And.intro hnA hgA); have HF3 : Hid (Fr (fun _ => False) w w3) := Lib.hid (HF2.out.trans hfw3 (fun _ _ h => h)); have HR3 := Lib.hid (HR2.out.fr hfw3 (fun _ _ _ h => h)); have HHA := Lib.hid haA; clear hv3 hf3 hn3 hnA hgA hfw3 haA))
  have hgw : w.heap.size ≤ gA := Nat.le_trans HF2.out.size hgw2
  have hr1 : HRep 85 87 2 (SF1 w gA) w3 bh (.func (.func 10) #[] #[]) ((0 : Nat) : Int) (([] : List (Int × Addr)).map en) (.slice none 0 0) bm [] :=
    ⟨HR3.out.head, Own.nil _ _ _ _, HR3.out.map, HR3.out.ok, ⟨by have := HR2.out.fh; have := HF1.out.size; omega, by have := lt_of_heap HR2.out.head; omega⟩, ⟨by have := HR2.out.fm; have := HF1.out.size; omega, by have := HR2.out.map.lt; omega⟩, HR3.out.wid, HR3.out.one⟩
  have HR1 := Lib.hid hr1
  clear hr1
  unfold maxLen at hcM
  go_loopw [24] (fun s wr => SRel1 w gA ln zs bh bm s wr) (fun s _ => ln - (intOf s).toNat)
  case atStart => exact ⟨0, [], _, _, rfl, Nat.zero_le _, List.Perm.refl _, HR1.out, HA.out.1, HF3.out⟩
  case round =>
    obtain ⟨k, L, lv, m, rfl, hk, hp, hr, hst, hf⟩ := hrel
    have HP := Lib.hid hp
    have HR := Lib.hid hr
    have HST := Lib.hid hst
    have HF := Lib.hid hf
    clear hp hr hst hf
    by_cases hlt : k < ln
    · obtain rfl := HHA.out (by omega)
      have HNA := Lib.hid (HST.out (by omega))
      have hLk : L.length = k := by rw [HP.out.length_eq]; unfold boxesTo; simp
      have HLK := Lib.hid hLk
      have HGA1 : Hid (gA < wr.heap.size) := Lib.hid (by obtain ⟨cur, hc, _⟩ := HNA.out; exact lt_of_heap hc)
      have HOK : Hid (∀ p ∈ L, boxOk gA zs.length p.2) := Lib.hid (fun p hp => by
        obtain ⟨i, hi, rfl⟩ := boxesTo_mem (HP.out.mem_iff.1 hp)
        exact ⟨i, by rw [HZ.out]; omega, rfl⟩)
      have HT : Hid (∀ p ∈ L, p.1 ≤ (k : Int)) := Lib.hid (fun p hp => by
        obtain ⟨i, hi, rfl⟩ := boxesTo_mem (HP.out.mem_iff.1 hp)
        show (i : Int) + 1 ≤ k
        omega)
      clear hLk
      go_wp2_with (go_at_call 11; refine (push_any (light_spec gA zs) ⟨gA, k, none⟩ (HR.out.mono (G := fun j => SF1 w gA j ∧ j < wr.heap.size) (fun j hj hF => ⟨hF, hj⟩)) (by omega) (by omega) (by rw [HLK.out]; omega) HT.out HOK.out ⟨k, by rw [HZ.out]; exact hlt, rfl⟩ (c := 0) HNA.out (fun j hj => ⟨fun h => h.1.2 hj, hj ▸ HGA1.out⟩)).mono ?_; rintro e w4 ⟨rfl, ⟨lv4, m4, hr4⟩, ⟨c4, _, _, hs4⟩, hf4⟩; have HR4 := Lib.hid hr4; have HS4 := Lib.hid hs4; have HF4 := Lib.hid hf4; clear hr4 hs4 hf4)
      go_roundw
      case rel =>
        refine ⟨k + 1, _, lv4, m4, by go_num, by omega, ?_, HR4.out.mono (fun j hj hF => ?_), fun _ => HS4.out, HF.out.trans HF4.out (fun j hj h => ?_)⟩
        · rw [boxesTo_succ]
          exact (pushL_perm _ _).trans (HP.out.append_right _)
        · rcases hF with hF | hF
          · exact hF.1
          · have h1 := HF.out.size
            have h2 := HGA1.out
            exact ⟨by omega, by omega⟩
        · rcases h with h | h
          · have := h.1.1
            omega
          · omega
      case measure => simp [intOf]; omega
    · obtain rfl : k = ln := by omega
      have hLk : L.length = k := by rw [HP.out.length_eq]; unfold boxesTo; simp
      have HLK := Lib.hid hLk
      have hLb : L.length ≤ 8796093022208 := by omega
      clear hLk
      go_wp2_with (go_at_call 12; refine (clone_any HR.out hLb).mono ?_; rintro e w4 ⟨bc, bd, lv2, rfl, hc4, hf4⟩; have HC4 := Lib.hid hc4; have HF4 := Lib.hid hf4; clear hc4 hf4)
      have hboth : SBoth w gA k bh bm bc bd L lv lv2 m w4 := by
        refine ⟨HR.out.fr HF4.out (fun _ _ _ h => h), HC4.out.mono (fun j _ hj h0 e => ?_), fun h0 => ?_, HF.out.trans HF4.out (fun _ _ h => h)⟩
        · obtain ⟨cur, hc, _⟩ := HST.out h0
          have := lt_of_heap hc
          omega
        · obtain ⟨cur, hc, hcz⟩ := HST.out h0
          refine ⟨cur, HF4.out.get hc id, ?_⟩
          have hz := HZ.out
          have h1 := hcz (k - 1) (by omega)
          have := (Array.getElem?_eq_some_iff.1 h1).1
          omega
      have HBO := Lib.hid hboth
      clear hboth
      go_loopw [40] (fun s wq => ∃ j : Nat, s = .int .i64 (j : Int) ∧ j ≤ k ∧ SBoth w gA k bh bm bc bd L lv lv2 m wq) (fun s _ => k - (intOf s).toNat)
      case atStart => exact ⟨0, rfl, Nat.zero_le _, HBO.out⟩
      case round =>
        obtain ⟨j, rfl, hj, hb⟩ := hrel
        have HBJ := Lib.hid hb
        clear hb
        by_cases hlt : j < k
        · obtain rfl := HHA.out (by omega)
          obtain ⟨cur, hcur, hcs⟩ := HBJ.out.a (by omega)
          have a0 : wr.cell? ⟨gA, j, none⟩ = some cur[j] := cell_is hcur j (Array.getElem?_eq_getElem (by omega))
          have a1 := frozen_of hcur j
          clear hcur
          generalize cur[j] = u0 at *
          go_wp2_with (fail)
          go_roundw
          case rel => exact ⟨j + 1, by go_num, by omega, HBJ.out.store (by omega) hgw j _⟩
          case measure => simp [intOf]; omega
        · obtain rfl : j = k := by omega
          go_wp2_with (fail)
          go_loopw [50] (fun s wp => ∃ i : Nat, s = .int .i64 (i : Int) ∧ i ≤ j ∧ SBoth w gA j bh bm bc bd L lv lv2 m wp) (fun s _ => j - (intOf s).toNat)
          case atStart => exact ⟨0, rfl, Nat.zero_le _, HBJ.out⟩
          case round =>
            obtain ⟨i, rfl, hi, hb⟩ := hrel
            have HBI := Lib.hid hb
            clear hb
            by_cases hlt : i < j
            · obtain rfl := HHA.out (by omega)
              have hmem : ((i : Int) + 1, (⟨gA, i, none⟩ : Addr)) ∈ L := HP.out.mem_iff.2 (List.mem_map.2 ⟨i, List.mem_range.2 hlt, rfl⟩)
              obtain ⟨q, hq⟩ := List.getElem?_of_mem hmem
              have HQ := Lib.hid hq
              clear hmem hq
              go_wp2_with (first
                | (go_at_call_of 13 (Value.pointer (some ⟨bh, 0, none⟩)); refine (get_some HBI.out.h HQ.out).mono ?_; rintro e w5 ⟨rfl, hf5⟩; dsimp only [thV]; have HB5 := Lib.hid (HBI.out.kept (hf5.alloc (.cells #[.pointer (some ⟨gA, i, none⟩)] 28))); clear hf5)
                | (go_at_call_of 13 (Value.pointer (some ⟨bc, 0, none⟩)); refine (get_some HB5.out.c HQ.out).mono ?_; rintro e w6 ⟨rfl, hf6⟩; dsimp only [thV]; have h11 := hf6.get (heap_alloc_eq w5 (.cells #[.pointer (some ⟨gA, i, none⟩)] 28)) id; have hl11 : w5.heap.size < w6.heap.size := lt_of_heap h11; have x11 : w6.cell? ⟨w5.heap.size, 0, none⟩ = some (.pointer (some ⟨gA, i, none⟩)) := cell_is h11 0 rfl; have HB6 := Lib.hid (HB5.out.kept (hf6.alloc (.cells #[.pointer (some ⟨gA, i, none⟩)] 28))); clear hf6 h11))
              have f13 : Fr (fun _ => False) w6 (w6.alloc (.cells #[.pointer (some ⟨gA, i, none⟩)] 28)) := (Fr.refl _ _).alloc _
              have y11 := cell_fr f13 x11 id
              have y13 : (w6.alloc (.cells #[.pointer (some ⟨gA, i, none⟩)] 28)).cell? ⟨w6.heap.size, 0, none⟩ = some (.pointer (some ⟨gA, i, none⟩)) := cell_is (heap_alloc_eq w6 _) 0 rfl
              clear f13 x11
              generalize w6.alloc (.cells #[.pointer (some ⟨gA, i, none⟩)] 28) = w7 at *
              obtain ⟨i3, hi3, _⟩ := info_parts info3'
              have hneq := fun w : World => Lib.run_neq_ptr_same (P := Try.prog) w (tp := 26) (te := 3) ⟨gA, i, none⟩ Try.underlying26 hi3
              clear hi3
              go_region_held3 (fun w' => w'.cell? ⟨w5.heap.size, 0, none⟩ = some (.pointer (some ⟨gA, i, none⟩)) ∧ w'.cell? ⟨w6.heap.size, 0, none⟩ = some (.pointer (some ⟨gA, i, none⟩))) (first | exact ⟨y11, y13⟩) (first | fail)
              go_wp2_with (fail)
              go_roundw
              case rel => exact ⟨i + 1, by go_num, by omega, HB6.out.kept (Fr.refl _ _).drew⟩
              case measure => simp [intOf]; omega
            · obtain rfl : i = j := by omega
              have HL3 : Hid (L.length = i) := HLK
              go_wp2_with (first
                | (go_at_call_of 14 (Value.pointer (some ⟨bh, 0, none⟩)); refine (len_any HBI.out.h).mono ?_; rintro e w8 ⟨rfl, rfl⟩; rw [HL3.out])
                | (go_at_call_of 14 (Value.pointer (some ⟨bc, 0, none⟩)); refine (len_any HBI.out.c).mono ?_; rintro e w9 ⟨rfl, rfl⟩; rw [HL3.out]))
              go_ret
              exact ⟨rfl, HBI.out.fr⟩

end Go.Proofs.Ytikimfdijkejpaa
