/- The heap at one type of things: ahead. -/
import Derived.Test.YtikimfdijkejpaaHTSwap
import Derived.Test.YtikimfdijkejpaaHpBef
import Derived.Deep.RegionHeld3
import Derived.Deep.DeepCutAuto
namespace Go.Proofs.Ytikimfdijkejpaa.HT
open Go.RowKit Go.Sb

def thV (x : Int × Int) : Value := .agg #[.int .i64 x.1, .int .i64 x.2]

set_option maxRecDepth 100000 in
set_option maxHeartbeats 2000000 in
theorem ahead_any {fid : Nat} {caps : Array Value} {okx : Int × Int → Prop} {bf : Int × Int → Int × Int → Bool} {St : Nat → World → Prop} {Sb : Nat → Prop} (B : BSpec Try.prog fid caps thV okx bf St Sb)
    (F : Nat → Prop) (bh bm : Nat) (lv : Value) (g : Int) (L : List (Int × (Int × Int))) (m : List (Int × Value)) (w : World) (i j : Nat) (a b : Int × (Int × Int)) (h : HRep 99 101 3 F w bh (.func (.func fid) #[] caps) g (L.map en) lv bm m)
    (hi : L[i]? = some a) (hj : L[j]? = some b) (ha : okx a.2) (hb : okx b.2) (c : Nat) (hst : St c w) (hSF : ∀ k, Sb k → ¬ F k ∧ k < w.heap.size) :
    Calls Try.prog 71 #[.pointer (some ⟨bh, 0, none⟩), .int .i64 (i : Int), .int .i64 (j : Int)] w fun e w' => e = .returned (.bool (aheadB bf a b)) ∧ (∃ c', c ≤ c' ∧ c' ≤ c + 2 ∧ St c' w') ∧ Fr Sb w w' := by
  have hil := (List.getElem?_eq_some_iff.1 hi).1
  have hjl := (List.getElem?_eq_some_iff.1 hj).1
  obtain ⟨gg, cap, rfl, hcap, hcm⟩ := h.some hil
  have hown : Own 101 3 F w (.slice (some ⟨gg, 0, none⟩) L.length cap) L.length (allc (L.map en)) := by simpa using h.list
  have c0 : w.cell? ⟨bh, 0, none⟩ = some (.func (.func fid) #[] caps) := cell_is h.head 0 rfl
  have c1 : w.cell? ⟨bh, 1, none⟩ = some (.slice (some ⟨gg, 0, none⟩) L.length cap) := cell_is h.head 1 rfl
  obtain ⟨i0, i1, i2⟩ := en_cells hown hi
  obtain ⟨j0, j1, j2⟩ := en_cells hown hj
  have hbl := lt_of_heap h.head
  have hgl := World.block_lt_of_cell? w _ i0
  have HB := Lib.hid B
  have HST := Lib.hid hst
  have HSF := Lib.hid hSF
  have HFB := Lib.hid h.fh
  have HOK := Lib.hid (And.intro ha hb)
  clear h hown hi hj B hst hSF ha hb
  obtain ⟨ta, ra, ma⟩ := a
  obtain ⟨tb, rb, mb⟩ := b
  dsimp only at i0 i1 i2 j0 j1 j2
  go_enter Try.func71, Try.ntmps71
  go_upto_region 1 with fail
  go_cut [7, 8] (fun s7 s8 wx => ∃ b7 b8, s7 = .pointer (some ⟨b7, 0, none⟩) ∧ s8 = .pointer (some ⟨b8, 0, none⟩) ∧ w.heap.size ≤ b7 ∧ w.heap.size ≤ b8 ∧ wx.heap[b7]? = some (.cells #[.int .i64 ta, .int .i64 ra, .int .i64 ma] 101 (0, 0)) ∧ wx.heap[b8]? = some (.cells #[.int .i64 tb, .int .i64 rb, .int .i64 mb] 101 (0, 0)) ∧ Fr (fun _ => False) w wx)
  case first =>
    go_region
    · have hf1 : Fr (fun _ => False) w ((w.alloc (.cells #[.int .i64 ta, .int .i64 ra, .int .i64 ma] 101)).alloc (.cells #[.int .i64 tb, .int .i64 rb, .int .i64 mb] 101)).drew := (((Fr.refl _ w).alloc _).alloc _).drew
      have hx : (((w.alloc (.cells #[.int .i64 ta, .int .i64 ra, .int .i64 ma] 101)).alloc (.cells #[.int .i64 tb, .int .i64 rb, .int .i64 mb] 101)).drew).heap[w.heap.size]? = some (.cells #[.int .i64 ta, .int .i64 ra, .int .i64 ma] 101 (0, 0)) := (heap_alloc_lt _ _ _ (by simp)).trans (heap_alloc_eq _ _)
      have hy : (((w.alloc (.cells #[.int .i64 ta, .int .i64 ra, .int .i64 ma] 101)).alloc (.cells #[.int .i64 tb, .int .i64 rb, .int .i64 mb] 101)).drew).heap[w.heap.size + 1]? = some (.cells #[.int .i64 tb, .int .i64 rb, .int .i64 mb] 101 (0, 0)) := by have := heap_alloc_eq (w.alloc (.cells #[.int .i64 ta, .int .i64 ra, .int .i64 ma] 101)) (.cells #[.int .i64 tb, .int .i64 rb, .int .i64 mb] 101); rw [World.size_alloc] at this; exact this
      go_wp2_with (fail)
      go_meet
      exact ⟨_, _, rfl, rfl, Nat.le_refl _, Nat.le_succ _, hx, hy, hf1⟩
    · have hf1 : Fr (fun _ => False) w ((w.alloc (.cells #[.int .i64 tb, .int .i64 rb, .int .i64 mb] 101)).alloc (.cells #[.int .i64 ta, .int .i64 ra, .int .i64 ma] 101)).drew := (((Fr.refl _ w).alloc _).alloc _).drew
      have hx : (((w.alloc (.cells #[.int .i64 tb, .int .i64 rb, .int .i64 mb] 101)).alloc (.cells #[.int .i64 ta, .int .i64 ra, .int .i64 ma] 101)).drew).heap[w.heap.size]? = some (.cells #[.int .i64 tb, .int .i64 rb, .int .i64 mb] 101 (0, 0)) := (heap_alloc_lt _ _ _ (by simp)).trans (heap_alloc_eq _ _)
      have hy : (((w.alloc (.cells #[.int .i64 tb, .int .i64 rb, .int .i64 mb] 101)).alloc (.cells #[.int .i64 ta, .int .i64 ra, .int .i64 ma] 101)).drew).heap[w.heap.size + 1]? = some (.cells #[.int .i64 ta, .int .i64 ra, .int .i64 ma] 101 (0, 0)) := by have := heap_alloc_eq (w.alloc (.cells #[.int .i64 tb, .int .i64 rb, .int .i64 mb] 101)) (.cells #[.int .i64 ta, .int .i64 ra, .int .i64 ma] 101); rw [World.size_alloc] at this; exact this
      go_wp2_with (fail)
      go_meet
      exact ⟨_, _, rfl, rfl, Nat.le_succ _, Nat.le_refl _, hy, hx, hf1⟩
  case rest =>
    obtain ⟨b7, b8, rfl, rfl, hb7, hb8, h7, h8, hf1⟩ := hcut
    have HF1 := Lib.hid hf1
    have H7 := Lib.hid h7
    have H8 := Lib.hid h8
    have d0 := cell_fr hf1 c0 id
    clear hf1 h7 h8 c0 c1 i0 i1 i2 j0 j1 j2
    obtain ⟨wx, rfl⟩ : ∃ wx : World, wx = wc := ⟨_, rfl⟩
    have k1 : wx.cell? ⟨b7, 1, none⟩ = some (.int .i64 ra) := cell_is H7.out 1 rfl
    have k2 : wx.cell? ⟨b7, 2, none⟩ = some (.int .i64 ma) := cell_is H7.out 2 rfl
    have l1 : wx.cell? ⟨b8, 1, none⟩ = some (.int .i64 rb) := cell_is H8.out 1 rfl
    have l2 : wx.cell? ⟨b8, 2, none⟩ = some (.int .i64 mb) := cell_is H8.out 2 rfl
    go_wp2_with (fail)
    have hent := HB.out.ent
    have HC1 := Lib.hid (HB.out.call (ra, ma) (rb, mb) c wx.drew HOK.out.1 HOK.out.2 (HB.out.stab c w wx.drew _ HST.out HF1.out.drew (fun _ _ h => h)))
    go_region_held3 (fun w' => w'.cell? ⟨bh, 0, none⟩ = some (.func (.func fid) #[] caps) ∧ w'.cell? ⟨b7, 1, none⟩ = some (.int .i64 ra) ∧ w'.cell? ⟨b7, 2, none⟩ = some (.int .i64 ma) ∧ w'.cell? ⟨b8, 1, none⟩ = some (.int .i64 rb) ∧ w'.cell? ⟨b8, 2, none⟩ = some (.int .i64 mb)) (first | exact ⟨d0, k1, k2, l1, l2⟩ | exact kk.out) (first
      | (refine HC1.out.mono ?_; rintro e w3 ⟨rfl, hf3, hs3⟩; have H73 := Lib.hid (hf3.get (show wx.drew.heap[b7]? = _ from H7.out) (fun h => by have := (HSF.out _ h).2; omega)); have H83 := Lib.hid (hf3.get (show wx.drew.heap[b8]? = _ from H8.out) (fun h => by have := (HSF.out _ h).2; omega)); have d3 : w3.cell? ⟨bh, 0, none⟩ = some (.func (.func fid) #[] caps) := cell_fr (a := wx.drew) hf3 d0 (fun h => (HSF.out _ h).1 HFB.out); have kk := Lib.hid (And.intro d3 (And.intro (cell_is H73.out 1 rfl) (And.intro (cell_is H73.out 2 rfl) (And.intro (cell_is H83.out 1 rfl) (cell_is H83.out 2 rfl))))); have HF3 := Lib.hid hf3; have HS3 := Lib.hid hs3; clear hf3 hs3))
    have hff := hf_join HF1.out HF3.out
    have HFF := Lib.hid hff
    clear hff HC1
    cases hq1 : bf (ra, ma) (rb, mb)
    · have HQ1 := Lib.hid hq1
      have e0 : w3.cell? ⟨b7, 0, none⟩ = some (.int .i64 ta) := cell_is H73.out 0 rfl
      have e1 : w3.cell? ⟨b8, 0, none⟩ = some (.int .i64 tb) := cell_is H83.out 0 rfl
      clear hq1
      go_wp2_with (fail)
      have HC2 := Lib.hid (HB.out.call (rb, mb) (ra, ma) (c + 1) w3.drew HOK.out.2 HOK.out.1 (HB.out.stab (c + 1) w3 w3.drew _ HS3.out (Fr.refl (fun _ => False) w3).drew (fun _ _ h => h)))
      cases hq2 : bf (rb, mb) (ra, ma)
      · rw [hq2] at HC2
        have HQ2 := Lib.hid hq2
        clear hq2
        go_region_held3 (fun w' => w'.cell? ⟨bh, 0, none⟩ = some (.func (.func fid) #[] caps) ∧ w'.cell? ⟨b7, 1, none⟩ = some (.int .i64 ra) ∧ w'.cell? ⟨b7, 2, none⟩ = some (.int .i64 ma) ∧ w'.cell? ⟨b8, 1, none⟩ = some (.int .i64 rb) ∧ w'.cell? ⟨b8, 2, none⟩ = some (.int .i64 mb) ∧ w'.cell? ⟨b7, 0, none⟩ = some (.int .i64 ta) ∧ w'.cell? ⟨b8, 0, none⟩ = some (.int .i64 tb)) (first | exact ⟨kk.out.1, kk.out.2.1, kk.out.2.2.1, kk.out.2.2.2.1, kk.out.2.2.2.2, e0, e1⟩ | exact k4.out) (first
          | (refine HC2.out.mono ?_; rintro e w4 ⟨rfl, hf4, hs4⟩; have H74 := Lib.hid (hf4.get (show w3.drew.heap[b7]? = _ from H73.out) (fun h => by have := (HSF.out _ h).2; omega)); have H84 := Lib.hid (hf4.get (show w3.drew.heap[b8]? = _ from H83.out) (fun h => by have := (HSF.out _ h).2; omega)); have d4 : w4.cell? ⟨bh, 0, none⟩ = some (.func (.func fid) #[] caps) := cell_fr (a := w3.drew) hf4 d3 (fun h => (HSF.out _ h).1 HFB.out); have k4 := Lib.hid (And.intro d4 (And.intro (cell_is H74.out 1 rfl) (And.intro (cell_is H74.out 2 rfl) (And.intro (cell_is H84.out 1 rfl) (And.intro (cell_is H84.out 2 rfl) (And.intro (cell_is H74.out 0 rfl) (cell_is H84.out 0 rfl))))))); have HF4 := Lib.hid hf4; have HS4 := Lib.hid hs4; clear hf4 hs4))
        go_wp2_with (fail)
        go_ret
        refine ⟨?_, ⟨c + 2, by omega, Nat.le_refl _, HS4.out⟩, fr_join HFF.out HF4.out⟩
        unfold aheadB
        rw [HQ1.out, HQ2.out]
        rfl
      · rw [hq2] at HC2
        have HQ2 := Lib.hid hq2
        clear hq2
        refine wp_region_held_drew (S := fun w' => w'.cell? ⟨bh, 0, none⟩ = some (.func (.func fid) #[] caps) ∧ w'.cell? ⟨b7, 1, none⟩ = some (.int .i64 ra) ∧ w'.cell? ⟨b7, 2, none⟩ = some (.int .i64 ma) ∧ w'.cell? ⟨b8, 1, none⟩ = some (.int .i64 rb) ∧ w'.cell? ⟨b8, 2, none⟩ = some (.int .i64 mb)) (by kernel_rfl) ⟨kk.out.1, kk.out.2.1, kk.out.2.2.1, kk.out.2.2.2.1, kk.out.2.2.2.2⟩ (fun hS1 => ?_)
        refine wpAnyH_take (i := 0) (v := (.pointer (some ⟨bh, 0, none⟩))) rfl (by kernel_rfl) (by kernel_rfl) (by kernel_rfl) (fun _ _ _ h => h) (Or.inl ⟨by rfl, fun w' hS => by obtain ⟨q0, q1, q2, q3, q4⟩ := hS; go_simp⟩) hS1 ?_
        try simp only [Act.put, List.getElem_toArray, List.getElem_cons_zero, List.setIfInBounds_toArray, List.set_cons_zero, List.set_cons_succ]
        refine wpAnyH_take (i := 1) (v := (.pointer (some ⟨bh, 0, none⟩))) rfl (by kernel_rfl) (by kernel_rfl) (by kernel_rfl) (fun _ _ _ h => h) (Or.inl ⟨by rfl, fun w' hS => by obtain ⟨q0, q1, q2, q3, q4⟩ := hS; go_simp⟩) hS1 ?_
        try simp only [Act.put, List.getElem_toArray, List.getElem_cons_zero, List.getElem_cons_succ, List.setIfInBounds_toArray, List.set_cons_zero, List.set_cons_succ]
        refine wpAnyH_take (i := 2) (v := (.pointer (some ⟨bh, 0, none⟩))) rfl (by kernel_rfl) (by kernel_rfl) (by kernel_rfl) (fun _ _ _ h => h) (Or.inl ⟨by rfl, fun w' hS => by obtain ⟨q0, q1, q2, q3, q4⟩ := hS; go_simp⟩) hS1 ?_
        try simp only [Act.put, List.getElem_toArray, List.getElem_cons_zero, List.getElem_cons_succ, List.setIfInBounds_toArray, List.set_cons_zero, List.set_cons_succ]
        refine wpAnyH_take (i := 3) (v := (.func (.func fid) #[] caps)) rfl (by kernel_rfl) (by kernel_rfl) (by kernel_rfl) (fun _ _ _ h => h) (Or.inl ⟨by rfl, fun w' hS => by obtain ⟨q0, q1, q2, q3, q4⟩ := hS; go_simp⟩) hS1 ?_
        try simp only [Act.put, List.getElem_toArray, List.getElem_cons_zero, List.getElem_cons_succ, List.setIfInBounds_toArray, List.set_cons_zero, List.set_cons_succ]
        refine wpAnyH_take (i := 4) (v := (.pointer (some ⟨b8, 1, none⟩))) rfl (by kernel_rfl) (by kernel_rfl) (by kernel_rfl) (fun _ _ _ h => h) (Or.inl ⟨by rfl, fun w' hS => by obtain ⟨q0, q1, q2, q3, q4⟩ := hS; go_simp⟩) hS1 ?_
        try simp only [Act.put, List.getElem_toArray, List.getElem_cons_zero, List.getElem_cons_succ, List.setIfInBounds_toArray, List.set_cons_zero, List.set_cons_succ]
        refine wpAnyH_take (i := 5) (v := (.agg #[.int .i64 rb, .int .i64 mb])) rfl (by kernel_rfl) (by kernel_rfl) (by kernel_rfl) (fun _ _ _ h => h) (Or.inl ⟨by rfl, fun w' hS => by obtain ⟨q0, q1, q2, q3, q4⟩ := hS; go_simp⟩) hS1 ?_
        try simp only [Act.put, List.getElem_toArray, List.getElem_cons_zero, List.getElem_cons_succ, List.setIfInBounds_toArray, List.set_cons_zero, List.set_cons_succ]
        refine wpAnyH_take (i := 6) (v := (.pointer (some ⟨b7, 1, none⟩))) rfl (by kernel_rfl) (by kernel_rfl) (by kernel_rfl) (fun _ _ _ h => h) (Or.inl ⟨by rfl, fun w' hS => by obtain ⟨q0, q1, q2, q3, q4⟩ := hS; go_simp⟩) hS1 ?_
        try simp only [Act.put, List.getElem_toArray, List.getElem_cons_zero, List.getElem_cons_succ, List.setIfInBounds_toArray, List.set_cons_zero, List.set_cons_succ]
        refine wpAnyH_take (i := 7) (v := (.agg #[.int .i64 ra, .int .i64 ma])) rfl (by kernel_rfl) (by kernel_rfl) (by kernel_rfl) (fun _ _ _ h => h) (Or.inl ⟨by rfl, fun w' hS => by obtain ⟨q0, q1, q2, q3, q4⟩ := hS; go_simp⟩) hS1 ?_
        try simp only [Act.put, List.getElem_toArray, List.getElem_cons_zero, List.getElem_cons_succ, List.setIfInBounds_toArray, List.set_cons_zero, List.set_cons_succ]
        refine wpAnyH_ready (rs := [8]) (by kernel_rfl) (by simp) ?_
        refine AllReadyH.cons rfl (fun K hK => ?_) AllReadyH.nil
        rw [if_pos (by rfl)]
        go_simp
        refine HC2.out.mono ?_
        rintro e w4 ⟨rfl, hf4, hs4⟩
        have H74 := Lib.hid (hf4.get (show w3.drew.heap[b7]? = _ from H73.out) (fun h => by have := (HSF.out _ h).2; omega))
        have H84 := Lib.hid (hf4.get (show w3.drew.heap[b8]? = _ from H83.out) (fun h => by have := (HSF.out _ h).2; omega))
        have d4 : w4.cell? ⟨bh, 0, none⟩ = some (.func (.func fid) #[] caps) := cell_fr (a := w3.drew) hf4 d3 (fun h => (HSF.out _ h).1 HFB.out)
        have k4 := Lib.hid (And.intro d4 (And.intro (cell_is H74.out 1 rfl) (And.intro (cell_is H74.out 2 rfl) (And.intro (cell_is H84.out 1 rfl) (And.intro (cell_is H84.out 2 rfl) (And.intro (cell_is H74.out 0 rfl) (cell_is H84.out 0 rfl)))))))
        have HF4 := Lib.hid hf4
        have HS4 := Lib.hid hs4
        clear hf4 hs4
        refine hK.out _ _ ⟨d4, cell_is H74.out 1 rfl, cell_is H74.out 2 rfl, cell_is H84.out 1 rfl, cell_is H84.out 2 rfl⟩ (fun hS2 => ?_)
        clear hK K
        try simp only [Act.put, List.getElem_toArray, List.getElem_cons_zero, List.getElem_cons_succ, List.setIfInBounds_toArray, List.set_cons_zero, List.set_cons_succ]
        refine wpAnyH_take (i := 9) (v := (.bool false)) rfl (by kernel_rfl) (by kernel_rfl) (by kernel_rfl) (fun _ _ _ h => h) (Or.inl ⟨by rfl, fun w' hS => by obtain ⟨q0, q1, q2, q3, q4⟩ := hS; go_simp⟩) hS2 ?_
        try simp only [Act.put, List.getElem_toArray, List.getElem_cons_zero, List.getElem_cons_succ, List.setIfInBounds_toArray, List.set_cons_zero, List.set_cons_succ]
        refine wpAnyH_take (i := 10) (v := (.bool false)) rfl (by kernel_rfl) (by kernel_rfl) (by kernel_rfl) (fun _ _ _ h => h) (Or.inl ⟨by rfl, fun w' hS => by obtain ⟨q0, q1, q2, q3, q4⟩ := hS; go_simp⟩) hS2 ?_
        try simp only [Act.put, List.getElem_toArray, List.getElem_cons_zero, List.getElem_cons_succ, List.setIfInBounds_toArray, List.set_cons_zero, List.set_cons_succ]
        refine wpAnyH_take (i := 11) (v := undef) rfl (by kernel_rfl) (by kernel_rfl) (by kernel_rfl) (fun _ _ _ h => h) (Or.inr ⟨by rfl, rfl⟩) hS2 ?_
        try simp only [Act.put, List.getElem_toArray, List.getElem_cons_zero, List.getElem_cons_succ, List.setIfInBounds_toArray, List.set_cons_zero, List.set_cons_succ]
        refine wpAnyH_take (i := 12) (v := undef) rfl (by kernel_rfl) (by kernel_rfl) (by kernel_rfl) (fun _ _ _ h => h) (Or.inr ⟨by rfl, rfl⟩) hS2 ?_
        try simp only [Act.put, List.getElem_toArray, List.getElem_cons_zero, List.getElem_cons_succ, List.setIfInBounds_toArray, List.set_cons_zero, List.set_cons_succ]
        refine wpAnyH_take (i := 13) (v := undef) rfl (by kernel_rfl) (by kernel_rfl) (by kernel_rfl) (fun _ _ _ h => h) (Or.inr ⟨by rfl, rfl⟩) hS2 ?_
        try simp only [Act.put, List.getElem_toArray, List.getElem_cons_zero, List.getElem_cons_succ, List.setIfInBounds_toArray, List.set_cons_zero, List.set_cons_succ]
        refine wpAnyH_take (i := 14) (v := undef) rfl (by kernel_rfl) (by kernel_rfl) (by kernel_rfl) (fun _ _ _ h => h) (Or.inr ⟨by rfl, rfl⟩) hS2 ?_
        try simp only [Act.put, List.getElem_toArray, List.getElem_cons_zero, List.getElem_cons_succ, List.setIfInBounds_toArray, List.set_cons_zero, List.set_cons_succ]
        refine wpAnyH_take (i := 15) (v := undef) rfl (by kernel_rfl) (by kernel_rfl) (by kernel_rfl) (fun _ _ _ h => h) (Or.inr ⟨by rfl, rfl⟩) hS2 ?_
        try simp only [Act.put, List.getElem_toArray, List.getElem_cons_zero, List.getElem_cons_succ, List.setIfInBounds_toArray, List.set_cons_zero, List.set_cons_succ]
        refine wpAnyH_take (i := 16) (v := (.bool false)) rfl (by kernel_rfl) (by kernel_rfl) (by kernel_rfl) (fun _ _ _ h => h) (Or.inl ⟨by rfl, fun w' hS => by obtain ⟨q0, q1, q2, q3, q4⟩ := hS; go_simp⟩) hS2 ?_
        try simp only [Act.put, List.getElem_toArray, List.getElem_cons_zero, List.getElem_cons_succ, List.setIfInBounds_toArray, List.set_cons_zero, List.set_cons_succ]
        refine wpAnyH_take (i := 17) (v := (.bool false)) rfl (by kernel_rfl) (by kernel_rfl) (by kernel_rfl) (fun _ _ _ h => h) (Or.inl ⟨by rfl, fun w' hS => by obtain ⟨q0, q1, q2, q3, q4⟩ := hS; go_simp⟩) hS2 ?_
        try simp only [Act.put, List.getElem_toArray, List.getElem_cons_zero, List.getElem_cons_succ, List.setIfInBounds_toArray, List.set_cons_zero, List.set_cons_succ]
        refine wpAnyH_done (by kernel_rfl) ?_ _
        go_wp2_with (fail)
        go_ret
        refine ⟨?_, ⟨c + 2, by omega, Nat.le_refl _, HS4.out⟩, fr_join HFF.out HF4.out⟩
        unfold aheadB
        rw [HQ1.out, HQ2.out]
        rfl
    · have HQ1 := Lib.hid hq1
      clear hq1
      go_wp2_with (fail)
      go_ret
      refine ⟨?_, ⟨c + 1, by omega, by omega, HS3.out⟩, HFF.out⟩
      unfold aheadB
      rw [HQ1.out]
      rfl

/-- The same, the places spelt as the walk spells them. -/
theorem ahead_at {fid : Nat} {caps : Array Value} {okx : Int × Int → Prop} {bf : Int × Int → Int × Int → Bool} {St : Nat → World → Prop} {Sb : Nat → Prop} (B : BSpec Try.prog fid caps thV okx bf St Sb)
    {F : Nat → Prop} {bh bm : Nat} {lv : Value} {g : Int} {L : List (Int × (Int × Int))} {m : List (Int × Value)} {w : World} {ii ji : Int} (i j : Nat) (a b : Int × (Int × Int)) (h : HRep 99 101 3 F w bh (.func (.func fid) #[] caps) g (L.map en) lv bm m)
    (hi' : ii = (i : Int)) (hj' : ji = (j : Int)) (hi : L[i]? = some a) (hj : L[j]? = some b) (hok : ∀ p ∈ L, okx p.2) {c : Nat} (hst : St c w) (hSF : ∀ k, Sb k → ¬ F k ∧ k < w.heap.size) :
    Calls Try.prog 71 #[.pointer (some ⟨bh, 0, none⟩), .int .i64 ii, .int .i64 ji] w fun e w' => e = .returned (.bool (aheadB bf a b)) ∧ (∃ c', c ≤ c' ∧ c' ≤ c + 2 ∧ St c' w') ∧ Fr Sb w w' := by
  subst hi' hj'
  exact ahead_any B F bh bm lv g L m w i j a b h hi hj (hok _ (List.mem_of_getElem? hi)) (hok _ (List.mem_of_getElem? hj)) c hst hSF

end Go.Proofs.Ytikimfdijkejpaa.HT
