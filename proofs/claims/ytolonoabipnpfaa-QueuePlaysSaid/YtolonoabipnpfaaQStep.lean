/- QueuePlays: one step of a script. -/
import Derived.Test.YtolonoabipnpfaaQGoes
import Derived.Deep.DeepCutAuto
namespace Go.Proofs.Ytolonoabipnpfaa
open Go.RowKit Go.Sb

theorem pc_at : ∀ (l : List (Nat × Nat)) (k : Nat) (x : Nat × Nat), l[k]? = some x → (l.flatMap pc)[k * 2]? = some (.pointer (some ⟨x.1, 0, none⟩)) ∧ (l.flatMap pc)[k * 2 + 1]? = some (.pointer (some ⟨x.2, 0, none⟩))
  | [], _, _, h => by simp at h
  | y :: _, 0, x, h => by
    simp at h
    subst h
    exact ⟨rfl, rfl⟩
  | y :: l, k + 1, x, h => by
    have ih := pc_at l k x (by simpa using h)
    rw [show (k + 1) * 2 = k * 2 + 1 + 1 by omega]
    exact ih

set_option maxRecDepth 100000 in
set_option maxHeartbeats 4000000 in
theorem step_desk (w0 w : World) (bd : Nat) (P : List Pr) (N : Int) (lv kv : Value) (ks : List (Nat × Nat)) (kk : List (Nat × Nat × Nat)) (h : Desk w0 w bd P N lv kv ks kk) (h1 : 1 ≤ ks.length) (hN : N < 4398046511104)
    (kd on n x : Int) (ho0 : -9223372036854775808 ≤ on) (ho1 : on ≤ 9223372036854775807) (hn0 : -9223372036854775808 ≤ n) (hn1 : n ≤ 9223372036854775807) :
    Calls Try.prog 22 #[.pointer (some ⟨bd, 0, none⟩), .agg #[.int .i64 kd, .int .i64 on, .int .i64 n, .int .i64 x]] w (DeskPost w0 bd (N + 1)) := by
  obtain ⟨g, cap, rfl, hcap1, hcap2⟩ := h.l.some (by omega)
  have f1 : Fr (fun _ => False) w (w.alloc (.cells #[.int .i64 kd, .int .i64 on, .int .i64 n, .int .i64 x] 63)) := (Fr.refl _ w).alloc _
  have hb3 := heap_alloc_eq w (.cells #[.int .i64 kd, .int .i64 on, .int .i64 n, .int .i64 x] 63)
  have HD1 := Lib.hid (h.stay f1 (Int.le_refl N))
  have HB3 := Lib.hid hb3
  have hll := h.ll
  clear h f1 hb3
  go_enter Try.func22, Try.ntmps22
  go_upto_region 1 with fail
  go_cut [5] (fun s5 wx => ∃ (b9 i : Nat) (p : Pr), s5 = .pointer (some ⟨b9, 0, none⟩) ∧ P[i]? = some p ∧ wx.heap[b9]? = some (.cells #[.pointer (some ⟨p.bq, 0, none⟩), .pointer (some ⟨p.br, 0, none⟩)] 60 (0, 0)) ∧ Fr (fun _ => False) (w.alloc (.cells #[.int .i64 kd, .int .i64 on, .int .i64 n, .int .i64 x] 63)) wx)
  case first =>
    generalize hs0 : w.heap.size = b3 at *
    generalize hw2 : w.alloc (.cells #[.int .i64 kd, .int .i64 on, .int .i64 n, .int .i64 x] 63) = w2 at *
    clear hw2
    have d0 : w2.cell? ⟨bd, 0, none⟩ = some (.slice (some ⟨g, 0, none⟩) ks.length cap) := cell_is HD1.out.head 0 rfl
    have d1 : w2.cell? ⟨b3, 1, none⟩ = some (.int .i64 on) := cell_is HB3.out 1 rfl
    have HCC : Hid (∀ w', Fr (fun _ => False) w2 w' → w'.cell? ⟨bd, 0, none⟩ = some (.slice (some ⟨g, 0, none⟩) ks.length cap) ∧ w'.cell? ⟨b3, 1, none⟩ = some (.int .i64 on) ∧ (∀ j u, (ks.flatMap pc)[j]? = some u → w'.cell? ⟨g, j, none⟩ = some u)) :=
      Lib.hid (fun w' hf => ⟨cell_fr hf d0 id, cell_fr hf d1 id, fun j u hu => cell_fr hf (HD1.out.l.cell rfl hu) id⟩)
    refine wp_region_held_drew (S := fun w' => Fr (fun _ => False) w2 w') (by kernel_rfl) ((Fr.refl _ w2).drew) (fun hS1 => ?_)
    refine wpAnyH_take (i := 0) (v := (.pointer (some ⟨bd, 0, none⟩))) rfl (by kernel_rfl) (by kernel_rfl) (by kernel_rfl) (fun _ _ _ h => h) (Or.inl ⟨by rfl, fun w' hS => by obtain ⟨r0, r1, r2⟩ := HCC.out w' hS; go_simp⟩) hS1 ?_
    try simp only [Act.put, List.getElem_toArray, List.getElem_cons_zero, List.setIfInBounds_toArray, List.set_cons_zero, List.set_cons_succ]
    refine wpAnyH_take (i := 1) (v := (.pointer (some ⟨bd, 0, none⟩))) rfl (by kernel_rfl) (by kernel_rfl) (by kernel_rfl) (fun _ _ _ h => h) (Or.inl ⟨by rfl, fun w' hS => by obtain ⟨r0, r1, r2⟩ := HCC.out w' hS; go_simp⟩) hS1 ?_
    try simp only [Act.put, List.getElem_toArray, List.getElem_cons_zero, List.getElem_cons_succ, List.setIfInBounds_toArray, List.set_cons_zero, List.set_cons_succ]
    refine wpAnyH_take (i := 2) (v := (.pointer (some ⟨bd, 0, none⟩))) rfl (by kernel_rfl) (by kernel_rfl) (by kernel_rfl) (fun _ _ _ h => h) (Or.inl ⟨by rfl, fun w' hS => by obtain ⟨r0, r1, r2⟩ := HCC.out w' hS; go_simp⟩) hS1 ?_
    try simp only [Act.put, List.getElem_toArray, List.getElem_cons_zero, List.getElem_cons_succ, List.setIfInBounds_toArray, List.set_cons_zero, List.set_cons_succ]
    refine wpAnyH_take (i := 3) (v := (.slice (some ⟨g, 0, none⟩) ks.length cap)) rfl (by kernel_rfl) (by kernel_rfl) (by kernel_rfl) (fun _ _ _ h => h) (Or.inl ⟨by rfl, fun w' hS => by obtain ⟨r0, r1, r2⟩ := HCC.out w' hS; go_simp⟩) hS1 ?_
    try simp only [Act.put, List.getElem_toArray, List.getElem_cons_zero, List.getElem_cons_succ, List.setIfInBounds_toArray, List.set_cons_zero, List.set_cons_succ]
    refine wpAnyH_take (i := 4) (v := (.pointer (some ⟨b3, 1, none⟩))) rfl (by kernel_rfl) (by kernel_rfl) (by kernel_rfl) (fun _ _ _ h => h) (Or.inl ⟨by rfl, fun w' hS => by obtain ⟨r0, r1, r2⟩ := HCC.out w' hS; go_simp⟩) hS1 ?_
    try simp only [Act.put, List.getElem_toArray, List.getElem_cons_zero, List.getElem_cons_succ, List.setIfInBounds_toArray, List.set_cons_zero, List.set_cons_succ]
    refine wpAnyH_take (i := 5) (v := (.int .i64 on)) rfl (by kernel_rfl) (by kernel_rfl) (by kernel_rfl) (fun _ _ _ h => h) (Or.inl ⟨by rfl, fun w' hS => by obtain ⟨r0, r1, r2⟩ := HCC.out w' hS; go_simp⟩) hS1 ?_
    try simp only [Act.put, List.getElem_toArray, List.getElem_cons_zero, List.getElem_cons_succ, List.setIfInBounds_toArray, List.set_cons_zero, List.set_cons_succ]
    refine wpAnyH_take (i := 6) (v := (.pointer (some ⟨bd, 0, none⟩))) rfl (by kernel_rfl) (by kernel_rfl) (by kernel_rfl) (fun _ _ _ h => h) (Or.inl ⟨by rfl, fun w' hS => by obtain ⟨r0, r1, r2⟩ := HCC.out w' hS; go_simp⟩) hS1 ?_
    try simp only [Act.put, List.getElem_toArray, List.getElem_cons_zero, List.getElem_cons_succ, List.setIfInBounds_toArray, List.set_cons_zero, List.set_cons_succ]
    refine wpAnyH_take (i := 7) (v := (.pointer (some ⟨bd, 0, none⟩))) rfl (by kernel_rfl) (by kernel_rfl) (by kernel_rfl) (fun _ _ _ h => h) (Or.inl ⟨by rfl, fun w' hS => by obtain ⟨r0, r1, r2⟩ := HCC.out w' hS; go_simp⟩) hS1 ?_
    try simp only [Act.put, List.getElem_toArray, List.getElem_cons_zero, List.getElem_cons_succ, List.setIfInBounds_toArray, List.set_cons_zero, List.set_cons_succ]
    refine wpAnyH_take (i := 8) (v := (.pointer (some ⟨bd, 0, none⟩))) rfl (by kernel_rfl) (by kernel_rfl) (by kernel_rfl) (fun _ _ _ h => h) (Or.inl ⟨by rfl, fun w' hS => by obtain ⟨r0, r1, r2⟩ := HCC.out w' hS; go_simp⟩) hS1 ?_
    try simp only [Act.put, List.getElem_toArray, List.getElem_cons_zero, List.getElem_cons_succ, List.setIfInBounds_toArray, List.set_cons_zero, List.set_cons_succ]
    refine wpAnyH_take (i := 9) (v := (.slice (some ⟨g, 0, none⟩) ks.length cap)) rfl (by kernel_rfl) (by kernel_rfl) (by kernel_rfl) (fun _ _ _ h => h) (Or.inl ⟨by rfl, fun w' hS => by obtain ⟨r0, r1, r2⟩ := HCC.out w' hS; go_simp⟩) hS1 ?_
    try simp only [Act.put, List.getElem_toArray, List.getElem_cons_zero, List.getElem_cons_succ, List.setIfInBounds_toArray, List.set_cons_zero, List.set_cons_succ]
    refine wpAnyH_take (i := 10) (v := (.int .i64 (ks.length : Int))) rfl (by kernel_rfl) (by kernel_rfl) (by kernel_rfl) (fun _ _ _ h => h) (Or.inl ⟨by rfl, fun w' hS => by obtain ⟨r0, r1, r2⟩ := HCC.out w' hS; go_simp⟩) hS1 ?_
    try simp only [Act.put, List.getElem_toArray, List.getElem_cons_zero, List.getElem_cons_succ, List.setIfInBounds_toArray, List.set_cons_zero, List.set_cons_succ]
    refine wpAnyH_ready (rs := [11, 14]) (by kernel_rfl) (by simp) ?_
    refine AllReadyH.cons rfl (fun K hK => ?_) (AllReadyH.cons rfl (fun K hK => ?_) AllReadyH.nil)
    · rw [if_pos (by rfl)]
      go_simp
      refine (pick_any on (ks.length : Int) _ ho0 ho1 (by omega)).mono ?_
      rintro e w3 ⟨k0, rfl, hk1, _, rfl⟩
      obtain ⟨hk2, hk3⟩ := hk1 (by omega)
      obtain ⟨k, rfl⟩ := Int.eq_ofNat_of_zero_le hk2
      have hkl2 : k < ks.length := by omega
      obtain ⟨⟨qx, rx⟩, hkx⟩ : ∃ y, ks[k]? = some y := ⟨_, List.getElem?_eq_getElem hkl2⟩
      obtain ⟨hx0, hx1⟩ := pc_at ks k _ hkx
      have HKX := Lib.hid hkx
      clear hk1 hk2 hkx
      refine hK.out _ _ hS1 (fun hS2 => ?_)
      clear hK K
      try simp only [Act.put, List.getElem_toArray, List.getElem_cons_zero, List.getElem_cons_succ, List.setIfInBounds_toArray, List.set_cons_zero, List.set_cons_succ]
      refine wpAnyH_take (i := 12) (v := (.pointer (some ⟨g, k * 2, none⟩))) rfl (by kernel_rfl) (by kernel_rfl) (by kernel_rfl) (fun _ _ _ h => h) (Or.inl ⟨by rfl, fun w' hS => by obtain ⟨r0, r1, r2⟩ := HCC.out w' hS; go_simp⟩) hS2 ?_
      try simp only [Act.put, List.getElem_toArray, List.getElem_cons_zero, List.getElem_cons_succ, List.setIfInBounds_toArray, List.set_cons_zero, List.set_cons_succ]
      refine wpAnyH_take (i := 13) (v := (.agg #[.pointer (some ⟨qx, 0, none⟩), .pointer (some ⟨rx, 0, none⟩)])) rfl (by kernel_rfl) (by kernel_rfl) (by kernel_rfl) (fun _ _ _ h => h) (Or.inl ⟨by rfl, fun w' hS => by obtain ⟨r0, r1, r2⟩ := HCC.out w' hS; have x0 := r2 _ _ hx0; have x1 := r2 _ _ hx1; go_simp⟩) hS2 ?_
      try simp only [Act.put, List.getElem_toArray, List.getElem_cons_zero, List.getElem_cons_succ, List.setIfInBounds_toArray, List.set_cons_zero, List.set_cons_succ]
      refine wpAnyH_ready (rs := [14]) (by kernel_rfl) (by simp) ?_
      refine AllReadyH.cons rfl (fun K hK => ?_) AllReadyH.nil
      rw [if_pos (by rfl)]
      go_simp
      have hf7 : Fr (fun _ => False) w2 (w2.alloc (.cells #[.pointer none, .pointer none] 60)).drew := ((Fr.refl _ w2).alloc _).drew
      have hn7 : (w2.alloc (.cells #[.pointer none, .pointer none] 60)).drew.heap[w2.heap.size]? = some (.cells #[.pointer none, .pointer none] 60 (0, 0)) := heap_alloc_eq w2 _
      generalize (w2.alloc (.cells #[.pointer none, .pointer none] 60)).drew = w7 at *
      have y0 : w7.cell? ⟨w2.heap.size, 0, none⟩ = some (.pointer none) := cell_is hn7 0 rfl
      have y1 : w7.cell? ⟨w2.heap.size, 1, none⟩ = some (.pointer none) := cell_is hn7 1 rfl
      have z0 := frozen_of hn7 0
      have z1 := frozen_of hn7 1
      generalize hb9 : w2.heap.size = b9 at *
      refine hK.out _ _ hf7 (fun hS3 => ?_)
      clear hK K
      try simp only [Act.put, List.getElem_toArray, List.getElem_cons_zero, List.getElem_cons_succ, List.setIfInBounds_toArray, List.set_cons_zero, List.set_cons_succ]
      refine wpAnyH_ready (rs := [15]) (by kernel_rfl) (by simp) ?_
      refine AllReadyH.cons rfl (fun K hK => ?_) AllReadyH.nil
      rw [if_pos (by rfl)]
      go_simp
      have hf8 : Fr (fun _ => False) w2 ((w7.setCell ⟨b9, 0, none⟩ (.pointer (some ⟨qx, 0, none⟩))).setCell ⟨b9, 1, none⟩ (.pointer (some ⟨rx, 0, none⟩))) :=
        (hf7.setCell (p := ⟨b9, 0, none⟩) (.inr (Nat.le_of_eq hb9)) _).setCell (p := ⟨b9, 1, none⟩) (.inr (Nat.le_of_eq hb9)) _
      have hn8 := heap_setCell_eq 1 (.pointer (some ⟨rx, 0, none⟩)) (heap_setCell_eq 0 (.pointer (some ⟨qx, 0, none⟩)) hn7)
      simp only [List.setIfInBounds_toArray, List.set_cons_zero, List.set_cons_succ] at hn8
      refine hK.out _ _ hf8 (fun hS4 => ?_)
      clear hK K
      refine wpAnyH_done (by kernel_rfl) ?_ _
      obtain ⟨j, q, hj, rfl, rfl⟩ := key_at (HD1.out.ks_in _ (List.mem_of_getElem? HKX.out))
      go_wp2_with (fail)
      go_meet
      exact ⟨b9, j, q, rfl, hj, hn8, hf8⟩
    · rw [if_pos (by rfl)]
      go_simp
      have hf7 : Fr (fun _ => False) w2 (w2.alloc (.cells #[.pointer none, .pointer none] 60)).drew := ((Fr.refl _ w2).alloc _).drew
      have hn7 : (w2.alloc (.cells #[.pointer none, .pointer none] 60)).drew.heap[w2.heap.size]? = some (.cells #[.pointer none, .pointer none] 60 (0, 0)) := heap_alloc_eq w2 _
      generalize (w2.alloc (.cells #[.pointer none, .pointer none] 60)).drew = w7 at *
      have y0 : w7.cell? ⟨w2.heap.size, 0, none⟩ = some (.pointer none) := cell_is hn7 0 rfl
      have y1 : w7.cell? ⟨w2.heap.size, 1, none⟩ = some (.pointer none) := cell_is hn7 1 rfl
      have z0 := frozen_of hn7 0
      have z1 := frozen_of hn7 1
      generalize hb9 : w2.heap.size = b9 at *
      refine hK.out _ _ hf7 (fun hS2 => ?_)
      clear hK K
      try simp only [Act.put, List.getElem_toArray, List.getElem_cons_zero, List.getElem_cons_succ, List.setIfInBounds_toArray, List.set_cons_zero, List.set_cons_succ]
      refine wpAnyH_ready (rs := [11]) (by kernel_rfl) (by simp) ?_
      refine AllReadyH.cons rfl (fun K hK => ?_) AllReadyH.nil
      rw [if_pos (by rfl)]
      go_simp
      refine (pick_any on (ks.length : Int) _ ho0 ho1 (by omega)).mono ?_
      rintro e w3 ⟨k0, rfl, hk1, _, rfl⟩
      obtain ⟨hk2, hk3⟩ := hk1 (by omega)
      obtain ⟨k, rfl⟩ := Int.eq_ofNat_of_zero_le hk2
      have hkl2 : k < ks.length := by omega
      obtain ⟨⟨qx, rx⟩, hkx⟩ : ∃ y, ks[k]? = some y := ⟨_, List.getElem?_eq_getElem hkl2⟩
      obtain ⟨hx0, hx1⟩ := pc_at ks k _ hkx
      have HKX := Lib.hid hkx
      clear hk1 hk2 hkx
      refine hK.out _ _ hS2 (fun hS3 => ?_)
      clear hK K
      try simp only [Act.put, List.getElem_toArray, List.getElem_cons_zero, List.getElem_cons_succ, List.setIfInBounds_toArray, List.set_cons_zero, List.set_cons_succ]
      refine wpAnyH_take (i := 12) (v := (.pointer (some ⟨g, k * 2, none⟩))) rfl (by kernel_rfl) (by kernel_rfl) (by kernel_rfl) (fun _ _ _ h => h) (Or.inl ⟨by rfl, fun w' hS => by obtain ⟨r0, r1, r2⟩ := HCC.out w' hS; go_simp⟩) hS3 ?_
      try simp only [Act.put, List.getElem_toArray, List.getElem_cons_zero, List.getElem_cons_succ, List.setIfInBounds_toArray, List.set_cons_zero, List.set_cons_succ]
      refine wpAnyH_take (i := 13) (v := (.agg #[.pointer (some ⟨qx, 0, none⟩), .pointer (some ⟨rx, 0, none⟩)])) rfl (by kernel_rfl) (by kernel_rfl) (by kernel_rfl) (fun _ _ _ h => h) (Or.inl ⟨by rfl, fun w' hS => by obtain ⟨r0, r1, r2⟩ := HCC.out w' hS; have x0 := r2 _ _ hx0; have x1 := r2 _ _ hx1; go_simp⟩) hS3 ?_
      try simp only [Act.put, List.getElem_toArray, List.getElem_cons_zero, List.getElem_cons_succ, List.setIfInBounds_toArray, List.set_cons_zero, List.set_cons_succ]
      refine wpAnyH_ready (rs := [15]) (by kernel_rfl) (by simp) ?_
      refine AllReadyH.cons rfl (fun K hK => ?_) AllReadyH.nil
      rw [if_pos (by rfl)]
      go_simp
      have hf8 : Fr (fun _ => False) w2 ((w7.setCell ⟨b9, 0, none⟩ (.pointer (some ⟨qx, 0, none⟩))).setCell ⟨b9, 1, none⟩ (.pointer (some ⟨rx, 0, none⟩))) :=
        (hf7.setCell (p := ⟨b9, 0, none⟩) (.inr (Nat.le_of_eq hb9)) _).setCell (p := ⟨b9, 1, none⟩) (.inr (Nat.le_of_eq hb9)) _
      have hn8 := heap_setCell_eq 1 (.pointer (some ⟨rx, 0, none⟩)) (heap_setCell_eq 0 (.pointer (some ⟨qx, 0, none⟩)) hn7)
      simp only [List.setIfInBounds_toArray, List.set_cons_zero, List.set_cons_succ] at hn8
      refine hK.out _ _ hf8 (fun hS4 => ?_)
      clear hK K
      refine wpAnyH_done (by kernel_rfl) ?_ _
      obtain ⟨j, q, hj, rfl, rfl⟩ := key_at (HD1.out.ks_in _ (List.mem_of_getElem? HKX.out))
      go_wp2_with (fail)
      go_meet
      exact ⟨b9, j, q, rfl, hj, hn8, hf8⟩
  case rest =>
    obtain ⟨b9, i, p, rfl, hi, hb9, hf⟩ := hcut
    obtain ⟨wx, rfl⟩ : ∃ wx : World, wx = wc := ⟨_, rfl⟩
    have HD2 := Lib.hid (HD1.out.stay hf (Int.le_refl N))
    have HB39 := Lib.hid (hf.get HB3.out id)
    have HB9 := Lib.hid hb9
    have HP2 := Lib.hid (HD2.out.bank.rep i p hi)
    have hpg := HD2.out.bank.le i p hi
    have hpl := HP2.out.len
    have hg0 := HP2.out.g0
    clear hf hb9 HB3 HD1
    generalize hs0 : w.heap.size = b3 at *
    have k0 : wx.cell? ⟨b3, 0, none⟩ = some (.int .i64 kd) := cell_is HB39.out 0 rfl
    have k1 : wx.cell? ⟨b3, 1, none⟩ = some (.int .i64 on) := cell_is HB39.out 1 rfl
    have k2 : wx.cell? ⟨b3, 2, none⟩ = some (.int .i64 n) := cell_is HB39.out 2 rfl
    have k3 : wx.cell? ⟨b3, 3, none⟩ = some (.int .i64 x) := cell_is HB39.out 3 rfl
    have q0 : wx.cell? ⟨b9, 0, none⟩ = some (.pointer (some ⟨p.bq, 0, none⟩)) := cell_is HB9.out 0 rfl
    have q1 : wx.cell? ⟨b9, 1, none⟩ = some (.pointer (some ⟨p.br, 0, none⟩)) := cell_is HB9.out 1 rfl
    have HS : Hid (∀ w', Fr p.foot wx w' → w'.cell? ⟨b9, 0, none⟩ = some (.pointer (some ⟨p.bq, 0, none⟩)) ∧ w'.cell? ⟨b9, 1, none⟩ = some (.pointer (some ⟨p.br, 0, none⟩)) ∧ w'.cell? ⟨b3, 3, none⟩ = some (.int .i64 x)) := Lib.hid (fun w' hf => ⟨cell_fr hf q0 (HP2.out.not HB9.out (by decide) (by decide) (by decide) (by decide)), cell_fr hf q1 (HP2.out.not HB9.out (by decide) (by decide) (by decide) (by decide)), cell_fr hf k3 (HP2.out.not HB39.out (by decide) (by decide) (by decide) (by decide))⟩)
    by_cases e1 : kd = 1
    · subst e1
      go_wp2_with (fail)
      refine wp_region_held_drew (S := fun w' => Fr p.foot wx w') (by kernel_rfl) ((Fr.refl _ wx).drew) (fun hS1 => ?_)
      refine wpAnyH_take (i := 0) (v := (.pointer (some ⟨b9, 0, none⟩))) rfl (by kernel_rfl) (by kernel_rfl) (by kernel_rfl) (fun _ _ _ h => h) (Or.inl ⟨by rfl, fun w' hS => by obtain ⟨r0, r1, r2⟩ := HS.out w' hS; go_simp⟩) hS1 ?_
      try simp only [Act.put, List.getElem_toArray, List.getElem_cons_zero, List.setIfInBounds_toArray, List.set_cons_zero, List.set_cons_succ]
      refine wpAnyH_take (i := 1) (v := (.pointer (some ⟨p.bq, 0, none⟩))) rfl (by kernel_rfl) (by kernel_rfl) (by kernel_rfl) (fun _ _ _ h => h) (Or.inl ⟨by rfl, fun w' hS => by obtain ⟨r0, r1, r2⟩ := HS.out w' hS; go_simp⟩) hS1 ?_
      try simp only [Act.put, List.getElem_toArray, List.getElem_cons_zero, List.getElem_cons_succ, List.setIfInBounds_toArray, List.set_cons_zero, List.set_cons_succ]
      refine wpAnyH_take (i := 2) (v := (.pointer (some ⟨b3, 3, none⟩))) rfl (by kernel_rfl) (by kernel_rfl) (by kernel_rfl) (fun _ _ _ h => h) (Or.inl ⟨by rfl, fun w' hS => by obtain ⟨r0, r1, r2⟩ := HS.out w' hS; go_simp⟩) hS1 ?_
      try simp only [Act.put, List.getElem_toArray, List.getElem_cons_zero, List.getElem_cons_succ, List.setIfInBounds_toArray, List.set_cons_zero, List.set_cons_succ]
      refine wpAnyH_take (i := 3) (v := (.int .i64 x)) rfl (by kernel_rfl) (by kernel_rfl) (by kernel_rfl) (fun _ _ _ h => h) (Or.inl ⟨by rfl, fun w' hS => by obtain ⟨r0, r1, r2⟩ := HS.out w' hS; go_simp⟩) hS1 ?_
      try simp only [Act.put, List.getElem_toArray, List.getElem_cons_zero, List.getElem_cons_succ, List.setIfInBounds_toArray, List.set_cons_zero, List.set_cons_succ]
      refine wpAnyH_take (i := 5) (v := (.pointer (some ⟨b9, 1, none⟩))) rfl (by kernel_rfl) (by kernel_rfl) (by kernel_rfl) (fun _ _ _ h => h) (Or.inl ⟨by rfl, fun w' hS => by obtain ⟨r0, r1, r2⟩ := HS.out w' hS; go_simp⟩) hS1 ?_
      try simp only [Act.put, List.getElem_toArray, List.getElem_cons_zero, List.getElem_cons_succ, List.setIfInBounds_toArray, List.set_cons_zero, List.set_cons_succ]
      refine wpAnyH_take (i := 6) (v := (.pointer (some ⟨p.br, 0, none⟩))) rfl (by kernel_rfl) (by kernel_rfl) (by kernel_rfl) (fun _ _ _ h => h) (Or.inl ⟨by rfl, fun w' hS => by obtain ⟨r0, r1, r2⟩ := HS.out w' hS; go_simp⟩) hS1 ?_
      try simp only [Act.put, List.getElem_toArray, List.getElem_cons_zero, List.getElem_cons_succ, List.setIfInBounds_toArray, List.set_cons_zero, List.set_cons_succ]
      refine wpAnyH_take (i := 7) (v := (.pointer (some ⟨b3, 3, none⟩))) rfl (by kernel_rfl) (by kernel_rfl) (by kernel_rfl) (fun _ _ _ h => h) (Or.inl ⟨by rfl, fun w' hS => by obtain ⟨r0, r1, r2⟩ := HS.out w' hS; go_simp⟩) hS1 ?_
      try simp only [Act.put, List.getElem_toArray, List.getElem_cons_zero, List.getElem_cons_succ, List.setIfInBounds_toArray, List.set_cons_zero, List.set_cons_succ]
      refine wpAnyH_take (i := 8) (v := (.int .i64 x)) rfl (by kernel_rfl) (by kernel_rfl) (by kernel_rfl) (fun _ _ _ h => h) (Or.inl ⟨by rfl, fun w' hS => by obtain ⟨r0, r1, r2⟩ := HS.out w' hS; go_simp⟩) hS1 ?_
      try simp only [Act.put, List.getElem_toArray, List.getElem_cons_zero, List.getElem_cons_succ, List.setIfInBounds_toArray, List.set_cons_zero, List.set_cons_succ]
      refine wpAnyH_ready (rs := [4]) (by kernel_rfl) (by simp) ?_
      refine AllReadyH.cons rfl (fun K hK => ?_) AllReadyH.nil
      rw [if_pos (by rfl)]
      go_simp
      have hq7 := HP2.out.fr ((Fr.refl (fun _ => False) wx).drew) (fun _ _ h => h)
      refine (QI.join_any (Sb.foot p.bq p.bm p.l) p.bq p.bm p.g x wx.drew p.l hq7.q hq7.g0 (by omega) hq7.le).mono ?_
      rintro e w8 hj8
      obtain ⟨rfl, hb8, hf8⟩ := id hj8
      have hr8 := hq7.r.fr hf8 (fun k _ hk hk' => hq7.dj k hk' hk)
      have hS9 : Fr p.foot wx w8 := ((Fr.refl p.foot wx).drew).trans hf8 (fun k _ hk => .inl hk)
      have HJ8 := Lib.hid hj8
      have HR8 := Lib.hid hr8
      refine hK.out _ _ hS9 (fun hS9 => ?_)
      clear hK K hb8 hf8 hj8 hr8
      try simp only [Act.put, List.getElem_toArray, List.getElem_cons_zero, List.getElem_cons_succ, List.setIfInBounds_toArray, List.set_cons_zero, List.set_cons_succ]
      refine wpAnyH_ready (rs := [9]) (by kernel_rfl) (by simp) ?_
      refine AllReadyH.cons rfl (fun K hK => ?_) AllReadyH.nil
      rw [if_pos (by rfl)]
      go_simp
      refine (rjoin_any (rfoot p.br p.tv p.sv) p.br p.tv p.sv p.g x p.xs w8 HR8.out hq7.g0 (by omega) (by omega)).mono ?_
      rintro e w9 ⟨rfl, hb9, hf9⟩
      obtain ⟨p9, h9, hg9, _⟩ := hq7.joined HJ8.out ⟨hb9, hf9⟩
      have h9' := PTurn.ahead ((Fr.refl (fun _ => False) wx).drew) h9
      have HD9 := Lib.hid (HD2.out.turn (N' := N + 1) hi h9' (by omega) (by omega))
      refine hK.out _ _ h9'.fr (fun hS10 => ?_)
      clear hK K hb9 hf9 h9 h9' HJ8 HR8 hq7
      try simp only [Act.put, List.getElem_toArray, List.getElem_cons_zero, List.getElem_cons_succ, List.setIfInBounds_toArray, List.set_cons_zero, List.set_cons_succ]
      refine wpAnyH_take (i := 10) (v := (.bool true)) rfl (by kernel_rfl) (by kernel_rfl) (by kernel_rfl) (fun _ _ _ h => h) (Or.inl ⟨by rfl, fun w' hS => by go_simp⟩) hS10 ?_
      try simp only [Act.put, List.getElem_toArray, List.getElem_cons_zero, List.getElem_cons_succ, List.setIfInBounds_toArray, List.set_cons_zero, List.set_cons_succ]
      refine wpAnyH_take (i := 11) (v := (.bool true)) rfl (by kernel_rfl) (by kernel_rfl) (by kernel_rfl) (fun _ _ _ h => h) (Or.inl ⟨by rfl, fun w' hS => by go_simp⟩) hS10 ?_
      try simp only [Act.put, List.getElem_toArray, List.getElem_cons_zero, List.getElem_cons_succ, List.setIfInBounds_toArray, List.set_cons_zero, List.set_cons_succ]
      refine wpAnyH_done (by kernel_rfl) ?_ _
      go_wp2_with (fail)
      go_ret
      exact ⟨rfl, _, _, _, _, _, HD9.out, h1⟩
    have c1 : (kd == 1) = false := by simpa using e1
    by_cases e2 : kd = 2
    · subst e2
      have HD9 := Lib.hid (HD2.out.stay (Fr.refl _ wx) (show N ≤ N + 1 by omega))
      cases hxs : p.xs with
      | nil =>
        have hl0 : p.l = [] := by have := HP2.out.lens; rw [hxs] at this; exact List.eq_nil_of_length_eq_zero this
        obtain ⟨a, c, a', c', htv, hsv⟩ := HP2.out.r.shapes
        rw [hxs] at htv
        have u0 : wx.cell? ⟨p.br, 0, none⟩ = some (.slice a 0 c) := (show wx.cell? ⟨p.br, 0, none⟩ = some p.tv from cell_is HP2.out.r.head 0 rfl).trans (by rw [htv]; rfl)
        have hq := HP2.out.q
        rw [hl0] at hq
        have HQ := Lib.hid hq
        clear hq htv hsv hxs
        go_wp2_with (fail)
        refine (QI.first_nil _ p.bq p.bm p.g wx HQ.out).mono ?_
        rintro e w3 ⟨rfl, rfl⟩
        go_wp2_with (fail)
        go_ret
        exact ⟨rfl, _, _, _, _, _, HD9.out, h1⟩
      | cons y ys =>
        obtain ⟨yt, yx⟩ := y
        obtain ⟨nb, lr, hl0⟩ : ∃ nb lr, p.l = ⟨nb, yt, .int .i64 yx⟩ :: lr := by
          obtain ⟨us, vs, x', lu, lv', b, h2, h3, h4, _, h6⟩ := HP2.out.present (t := yt) (by rw [hxs]; simp)
          cases us with
          | nil =>
            cases lu with
            | nil =>
              rw [hxs] at h2
              simp only [List.nil_append, List.cons.injEq, Prod.mk.injEq, true_and] at h2
              rw [h2.1]
              exact ⟨b, lv', h3⟩
            | cons _ _ => simp at h4
          | cons u us =>
            rw [hxs] at h2
            simp only [List.cons_append, List.cons.injEq] at h2
            exact absurd (congrArg Prod.fst h2.1).symm (h6 u (by simp))
        have hx0 : p.xs[0]? = some (yt, yx) := by rw [hxs]; rfl
        have hxl : 0 < p.xs.length := by rw [hxs]; simp
        obtain ⟨gt, ct, gs, cs, htv, hsv, ht1, ht2, ht3, ht4, t1, t2⟩ := HP2.out.r.at hx0
        have u0 : wx.cell? ⟨p.br, 0, none⟩ = some (.slice (some ⟨gt, 0, none⟩) p.xs.length ct) := (show wx.cell? ⟨p.br, 0, none⟩ = some p.tv from cell_is HP2.out.r.head 0 rfl).trans (by rw [htv])
        have u1 : wx.cell? ⟨p.br, 1, none⟩ = some (.slice (some ⟨gs, 0, none⟩) p.xs.length cs) := (show wx.cell? ⟨p.br, 1, none⟩ = some p.sv from cell_is HP2.out.r.head 1 rfl).trans (by rw [hsv])
        have hq := HP2.out.q
        rw [hl0] at hq
        have HQ := Lib.hid hq
        have hnz : ((p.xs.length : Int) == 0) = false := by simp; exact fun h => by rw [h] at hxl; simp at hxl
        dsimp only at t1 t2
        clear hq htv hsv hxs hx0
        go_wp2_with (fail)
        refine (QI.first_cons _ p.bq p.bm p.g yt nb yx wx lr HQ.out).mono ?_
        rintro e w3 ⟨rfl, nd, rfl⟩
        have HD10 := Lib.hid (HD9.out.stay ((Fr.refl (fun _ => False) wx).drewN nd) (Int.le_refl (N + 1)))
        go_wp2_with (fail)
        go_ret
        exact ⟨rfl, _, _, _, _, _, HD10.out, h1⟩
    have c2 : (kd == 2) = false := by simpa using e2
    by_cases e3 : kd = 3
    · subst e3
      have HD9 := Lib.hid (HD2.out.stay (Fr.refl _ wx) (show N ≤ N + 1 by omega))
      by_cases ht : n ∈ p.xs.map Prod.fst
      · obtain ⟨us, vs, y, lu, lv', b, hxs, hl, hlu, hlv, hus⟩ := HP2.out.present ht
        have hx0 : p.xs[us.length]? = some (n, y) := by rw [hxs]; simp
        have hxl := (List.getElem?_eq_some_iff.1 hx0).1
        obtain ⟨gt, ct, gs, cs, htv, hsv, ht1, ht2, ht3, ht4, t1, t2⟩ := HP2.out.r.at hx0
        have u1 : wx.cell? ⟨p.br, 1, none⟩ = some (.slice (some ⟨gs, 0, none⟩) p.xs.length cs) := (show wx.cell? ⟨p.br, 1, none⟩ = some p.sv from cell_is HP2.out.r.head 1 rfl).trans (by rw [hsv])
        have HXS := Lib.hid hxs
        have HL := Lib.hid hl
        have HUS := Lib.hid hus
        dsimp only at t1 t2
        clear htv hsv hxs hx0 hl hlu hlv hus ht
        go_wp2_with (fail)
        refine (QI.get_some _ p.bq p.bm p.g n b y wx p.l lu lv' HP2.out.q HL.out).mono ?_
        rintro e w3 ⟨rfl, rfl⟩
        go_wp2_with (fail)
        refine (rat_some _ p.br p.tv p.sv p.g n y p.xs us vs _ HP2.out.r (by omega) HXS.out HUS.out).mono ?_
        rintro e w4 ⟨rfl, rfl⟩
        go_wp2_with (fail)
        go_ret
        exact ⟨rfl, _, _, _, _, _, HD9.out, h1⟩
      · obtain ⟨ha1, ha2⟩ := HP2.out.absent ht
        have HA1 := Lib.hid ha1
        have HA2 := Lib.hid ha2
        clear ht ha1 ha2
        go_wp2_with (fail)
        refine (QI.get_none _ p.bq p.bm p.g n wx p.l HP2.out.q HA1.out).mono ?_
        rintro e w3 ⟨rfl, rfl⟩
        go_wp2_with (fail)
        refine (rat_none _ p.br p.tv p.sv p.g n p.xs _ HP2.out.r (by omega) HA2.out).mono ?_
        rintro e w4 ⟨rfl, rfl⟩
        go_wp2_with (fail)
        go_ret
        exact ⟨rfl, _, _, _, _, _, HD9.out, h1⟩
    have c3 : (kd == 3) = false := by simpa using e3
    by_cases e4 : kd = 4
    · subst e4
      go_wp2_with (fail)
      refine (leave_pair wx p n HP2.out (by omega)).mono ?_
      rintro e w3 ⟨rfl, p', ht, hg, _, _⟩
      have HD9 := Lib.hid (HD2.out.turn (N' := N + 1) hi ht (by omega) (by omega))
      clear ht
      go_wp2_with (fail)
      go_ret
      exact ⟨rfl, _, _, _, _, _, HD9.out, h1⟩
    have c4 : (kd == 4) = false := by simpa using e4
    by_cases e5 : kd = 5
    · subst e5
      have HD9 := Lib.hid (HD2.out.stay ((Fr.refl (fun _ => False) wx).drew) (show N ≤ N + 1 by omega))
      obtain ⟨a, c, a', c', htv, hsv⟩ := HP2.out.r.shapes
      have u0 : wx.cell? ⟨p.br, 0, none⟩ = some (.slice a p.xs.length c) := (show wx.cell? ⟨p.br, 0, none⟩ = some p.tv from cell_is HP2.out.r.head 0 rfl).trans (by rw [htv])
      have hlens := HP2.out.lens
      clear htv hsv
      go_wp2_with (fail)
      refine wp_region_held_drew (S := fun w' => w'.cell? ⟨b9, 0, none⟩ = some (.pointer (some ⟨p.bq, 0, none⟩)) ∧ w'.cell? ⟨b9, 1, none⟩ = some (.pointer (some ⟨p.br, 0, none⟩)) ∧ w'.cell? ⟨p.br, 0, none⟩ = some (.slice a p.xs.length c)) (by kernel_rfl) ⟨q0, q1, u0⟩ (fun hS1 => ?_)
      refine wpAnyH_take (i := 0) (v := (.pointer (some ⟨b9, 0, none⟩))) rfl (by kernel_rfl) (by kernel_rfl) (by kernel_rfl) (fun _ _ _ h => h) (Or.inl ⟨by rfl, fun w' hS => by obtain ⟨r0, r1, r2⟩ := hS; go_simp⟩) hS1 ?_
      try simp only [Act.put, List.getElem_toArray, List.getElem_cons_zero, List.setIfInBounds_toArray, List.set_cons_zero, List.set_cons_succ]
      refine wpAnyH_take (i := 1) (v := (.pointer (some ⟨p.bq, 0, none⟩))) rfl (by kernel_rfl) (by kernel_rfl) (by kernel_rfl) (fun _ _ _ h => h) (Or.inl ⟨by rfl, fun w' hS => by obtain ⟨r0, r1, r2⟩ := hS; go_simp⟩) hS1 ?_
      try simp only [Act.put, List.getElem_toArray, List.getElem_cons_zero, List.getElem_cons_succ, List.setIfInBounds_toArray, List.set_cons_zero, List.set_cons_succ]
      refine wpAnyH_take (i := 3) (v := (.pointer (some ⟨b9, 1, none⟩))) rfl (by kernel_rfl) (by kernel_rfl) (by kernel_rfl) (fun _ _ _ h => h) (Or.inl ⟨by rfl, fun w' hS => by obtain ⟨r0, r1, r2⟩ := hS; go_simp⟩) hS1 ?_
      try simp only [Act.put, List.getElem_toArray, List.getElem_cons_zero, List.getElem_cons_succ, List.setIfInBounds_toArray, List.set_cons_zero, List.set_cons_succ]
      refine wpAnyH_take (i := 4) (v := (.pointer (some ⟨p.br, 0, none⟩))) rfl (by kernel_rfl) (by kernel_rfl) (by kernel_rfl) (fun _ _ _ h => h) (Or.inl ⟨by rfl, fun w' hS => by obtain ⟨r0, r1, r2⟩ := hS; go_simp⟩) hS1 ?_
      try simp only [Act.put, List.getElem_toArray, List.getElem_cons_zero, List.getElem_cons_succ, List.setIfInBounds_toArray, List.set_cons_zero, List.set_cons_succ]
      refine wpAnyH_take (i := 5) (v := (.pointer (some ⟨p.br, 0, none⟩))) rfl (by kernel_rfl) (by kernel_rfl) (by kernel_rfl) (fun _ _ _ h => h) (Or.inl ⟨by rfl, fun w' hS => by obtain ⟨r0, r1, r2⟩ := hS; go_simp⟩) hS1 ?_
      try simp only [Act.put, List.getElem_toArray, List.getElem_cons_zero, List.getElem_cons_succ, List.setIfInBounds_toArray, List.set_cons_zero, List.set_cons_succ]
      refine wpAnyH_take (i := 6) (v := (.pointer (some ⟨p.br, 0, none⟩))) rfl (by kernel_rfl) (by kernel_rfl) (by kernel_rfl) (fun _ _ _ h => h) (Or.inl ⟨by rfl, fun w' hS => by obtain ⟨r0, r1, r2⟩ := hS; go_simp⟩) hS1 ?_
      try simp only [Act.put, List.getElem_toArray, List.getElem_cons_zero, List.getElem_cons_succ, List.setIfInBounds_toArray, List.set_cons_zero, List.set_cons_succ]
      refine wpAnyH_take (i := 7) (v := (.slice a p.xs.length c)) rfl (by kernel_rfl) (by kernel_rfl) (by kernel_rfl) (fun _ _ _ h => h) (Or.inl ⟨by rfl, fun w' hS => by obtain ⟨r0, r1, r2⟩ := hS; go_simp⟩) hS1 ?_
      try simp only [Act.put, List.getElem_toArray, List.getElem_cons_zero, List.getElem_cons_succ, List.setIfInBounds_toArray, List.set_cons_zero, List.set_cons_succ]
      refine wpAnyH_take (i := 8) (v := (.int .i64 (p.xs.length : Int))) rfl (by kernel_rfl) (by kernel_rfl) (by kernel_rfl) (fun _ _ _ h => h) (Or.inl ⟨by rfl, fun w' hS => by obtain ⟨r0, r1, r2⟩ := hS; go_simp⟩) hS1 ?_
      try simp only [Act.put, List.getElem_toArray, List.getElem_cons_zero, List.getElem_cons_succ, List.setIfInBounds_toArray, List.set_cons_zero, List.set_cons_succ]
      refine wpAnyH_ready (rs := [2]) (by kernel_rfl) (by simp) ?_
      refine AllReadyH.cons rfl (fun K hK => ?_) AllReadyH.nil
      rw [if_pos (by rfl)]
      go_simp
      refine (QI.len_any _ p.bq p.bm p.g wx.drew p.l (HP2.out.q.drewN 1)).mono ?_
      rintro e w3 ⟨rfl, rfl⟩
      rw [hlens]
      refine hK.out _ _ hS1 (fun hS2 => ?_)
      clear hK K
      try simp only [Act.put, List.getElem_toArray, List.getElem_cons_zero, List.getElem_cons_succ, List.setIfInBounds_toArray, List.set_cons_zero, List.set_cons_succ]
      refine wpAnyH_take (i := 9) (v := (.bool true)) rfl (by kernel_rfl) (by kernel_rfl) (by kernel_rfl) (fun _ _ _ h => h) (Or.inl ⟨by rfl, fun w' hS => by go_simp⟩) hS2 ?_
      try simp only [Act.put, List.getElem_toArray, List.getElem_cons_zero, List.getElem_cons_succ, List.setIfInBounds_toArray, List.set_cons_zero, List.set_cons_succ]
      refine wpAnyH_take (i := 10) (v := (.bool true)) rfl (by kernel_rfl) (by kernel_rfl) (by kernel_rfl) (fun _ _ _ h => h) (Or.inl ⟨by rfl, fun w' hS => by go_simp⟩) hS2 ?_
      try simp only [Act.put, List.getElem_toArray, List.getElem_cons_zero, List.getElem_cons_succ, List.setIfInBounds_toArray, List.set_cons_zero, List.set_cons_succ]
      refine wpAnyH_done (by kernel_rfl) ?_ _
      go_wp2_with (fail)
      go_ret
      exact ⟨rfl, _, _, _, _, _, HD9.out, h1⟩
    have c5 : (kd == 5) = false := by simpa using e5
    have HG := Lib.hid (goes_desk w0 wx bd P N _ kv ks kk HD2.out h1 i p hi hN kd on n x hn0 hn1)
    by_cases e6 : kd = 6
    · subst e6
      go_wp2_with (fail)
      refine HG.out.mono ?_
      rintro e w3 ⟨rfl, P', lv', kv', ks', kk', h', h1'⟩
      have H' := Lib.hid h'
      clear h'
      go_wp2_with (fail)
      go_ret
      exact ⟨rfl, _, _, _, _, _, H'.out, h1'⟩
    have c6 : (kd == 6) = false := by simpa using e6
    by_cases e7 : kd = 7
    · subst e7
      go_wp2_with (fail)
      refine HG.out.mono ?_
      rintro e w3 ⟨rfl, P', lv', kv', ks', kk', h', h1'⟩
      have H' := Lib.hid h'
      clear h'
      go_wp2_with (fail)
      go_ret
      exact ⟨rfl, _, _, _, _, _, H'.out, h1'⟩
    have c7 : (kd == 7) = false := by simpa using e7
    by_cases e8 : kd = 8
    · subst e8
      go_wp2_with (fail)
      refine HG.out.mono ?_
      rintro e w3 ⟨rfl, P', lv', kv', ks', kk', h', h1'⟩
      have H' := Lib.hid h'
      clear h'
      go_wp2_with (fail)
      go_ret
      exact ⟨rfl, _, _, _, _, _, H'.out, h1'⟩
    have c8 : (kd == 8) = false := by simpa using e8
    by_cases e9 : kd = 9
    · subst e9
      go_wp2_with (fail)
      refine HG.out.mono ?_
      rintro e w3 ⟨rfl, P', lv', kv', ks', kk', h', h1'⟩
      have H' := Lib.hid h'
      clear h'
      go_wp2_with (fail)
      go_ret
      exact ⟨rfl, _, _, _, _, _, H'.out, h1'⟩
    have c9 : (kd == 9) = false := by simpa using e9
    by_cases e10 : kd = 10
    · subst e10
      go_wp2_with (fail)
      refine HG.out.mono ?_
      rintro e w3 ⟨rfl, P', lv', kv', ks', kk', h', h1'⟩
      have H' := Lib.hid h'
      clear h'
      go_wp2_with (fail)
      go_ret
      exact ⟨rfl, _, _, _, _, _, H'.out, h1'⟩
    have c10 : (kd == 10) = false := by simpa using e10
    clear HG
    by_cases e11 : kd = 11
    · subst e11
      go_wp2_with (fail)
      refine (clone_desk w0 wx bd P N _ kv ks kk HD2.out h1 i p hi (by omega) n hn0 hn1).mono ?_
      rintro e w3 ⟨rfl, P', lv', kv', ks', kk', h', h1'⟩
      have H' := Lib.hid (h'.stay (Fr.refl _ _) (show N ≤ N + 1 by omega))
      clear h'
      go_wp2_with (fail)
      go_ret
      exact ⟨rfl, _, _, _, _, _, H'.out, h1'⟩
    have c11 : (kd == 11) = false := by simpa using e11
    go_wp2_with (fail)
    go_ret
    exact ⟨rfl, _, _, _, _, _, HD2.out.stay (Fr.refl _ _) (show N ≤ N + 1 by omega), h1⟩

end Go.Proofs.Ytolonoabipnpfaa
