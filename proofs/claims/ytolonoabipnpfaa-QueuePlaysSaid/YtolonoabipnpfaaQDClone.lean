/- QueuePlays: one pair more, or in the place of another. -/
import Derived.Test.YtolonoabipnpfaaQDesk
namespace Go.Proofs.Ytolonoabipnpfaa
open Go.RowKit Go.Sb

theorem src_pc (w : World) (x : Nat × Nat) (n : Nat) (hn : n = w.heap.size) : Src (w.alloc (.cells #[.pointer (some ⟨x.1, 0, none⟩), .pointer (some ⟨x.2, 0, none⟩)] 60)) (.slice (some ⟨n, 0, none⟩) 1 1) 1 2 (pc x) := by
  subst hn
  refine ⟨rfl, ?_, .inr ⟨_, _, rfl, ?_⟩⟩
  · intro u hu
    simp only [pc, List.mem_cons, List.not_mem_nil, or_false] at hu
    rcases hu with rfl | rfl <;> rfl
  · intro j u hj
    have ha : (⟨w.heap.size, 0, none⟩ : Addr).add j = ⟨w.heap.size, j, none⟩ := by simp [Addr.add]; exact fun h => h.symm
    rw [ha, cell_of (heap_alloc_eq w _)]
    simpa [pc] using hj

theorem info60 : (Try.prog.info? 60).map (fun i => (i.zero, i.size, i.bytes)) = some (some (.agg #[.pointer none, .pointer none]), 2, 16) := by kernel_rfl

set_option maxRecDepth 100000 in
set_option maxHeartbeats 4000000 in
theorem clone_desk (w0 w : World) (bd : Nat) (P : List Pr) (N : Int) (lv kv : Value) (ks : List (Nat × Nat)) (kk : List (Nat × Nat × Nat)) (h : Desk w0 w bd P N lv kv ks kk) (h1 : 1 ≤ ks.length) (i : Nat) (p : Pr) (hi : P[i]? = some p) (hN : N ≤ 4398046511104)
    (n : Int) (hn0 : -9223372036854775808 ≤ n) (hn1 : n ≤ 9223372036854775807) :
    Calls Try.prog 41 #[.pointer (some ⟨bd, 0, none⟩), .agg #[.pointer (some ⟨p.bq, 0, none⟩), .pointer (some ⟨p.br, 0, none⟩)], .int .i64 n] w (DeskPost w0 bd N) := by
  have f1 : Fr (fun _ => False) w (w.alloc (.cells #[.pointer (some ⟨p.bq, 0, none⟩), .pointer (some ⟨p.br, 0, none⟩)] 60)) := (Fr.refl _ w).alloc _
  have hb4 := heap_alloc_eq w (.cells #[.pointer (some ⟨p.bq, 0, none⟩), .pointer (some ⟨p.br, 0, none⟩)] 60)
  have HD1 := Lib.hid (h.stay f1 (Int.le_refl N))
  have HB4 := Lib.hid hb4
  have hge := h.fr.size
  clear h f1 hb4
  go_enter Try.func41, Try.ntmps41
  go_wp2_with (fail)
  generalize hs0 : w.heap.size = b4 at *
  generalize hw1 : w.alloc (.cells #[.pointer (some ⟨p.bq, 0, none⟩), .pointer (some ⟨p.br, 0, none⟩)] 60) = w1 at *
  have hsz1 := lt_of_heap HB4.out
  have HP1 := Lib.hid (HD1.out.bank.rep i p hi)
  have hpg := HD1.out.bank.le i p hi
  have hpl := HP1.out.len
  refine (QI.clone_any (Sb.foot p.bq p.bm p.l) p.bq p.bm p.g w1 p.l p.xs HP1.out.q HP1.out.same (by omega)).mono ?_
  rintro e w2 ⟨bc, bmc, ls, rfl, hq2, hnv, hf2⟩
  have HQ2 := Lib.hid hq2
  have HF2 := Lib.hid hf2
  have HR2 := Lib.hid (HP1.out.r.fr hf2 (fun _ _ _ h => h))
  have hb2 := hf2.get HB4.out id
  have c1 : w2.cell? ⟨b4, 1, none⟩ = some (.pointer (some ⟨p.br, 0, none⟩)) := cell_is hb2 1 rfl
  have hs2 := hf2.size
  have hbc := lt_of_heap hq2.head
  have hbc1 : w1.heap.size ≤ bc := hq2.fq
  clear hq2 hf2 hb2
  go_wp2_with (fail)
  refine (rclone_any _ p.br p.tv p.sv p.g p.xs w2 HR2.out (by omega)).mono ?_
  rintro e w3 ⟨bc2, tv, sv, rfl, hr3, hf3⟩
  have hbc2 := lt_of_heap hr3.head
  have hf4 : Fr (fun _ => False) w3 (w3.alloc (.cells #[.pointer (some ⟨bc, 0, none⟩), .pointer (some ⟨bc2, 0, none⟩)] 60)) := (Fr.refl _ w3).alloc _
  obtain ⟨hpn, hfn⟩ := HP1.out.cloned HQ2.out hnv hf3 hr3 HF2.out.size hf4
  have HD4 := Lib.hid (HD1.out.more ((HF2.out.trans hf3 (fun _ _ h => h)).trans hf4 (fun _ _ h => h)) hpn hpg hfn)
  have HB8 := Lib.hid (heap_alloc_eq w3 (.cells #[.pointer (some ⟨bc, 0, none⟩), .pointer (some ⟨bc2, 0, none⟩)] 60))
  have d0 : (w3.alloc (.cells #[.pointer (some ⟨bc, 0, none⟩), .pointer (some ⟨bc2, 0, none⟩)] 60)).cell? ⟨bd, 0, none⟩ = some lv := cell_is HD4.out.head 0 rfl
  obtain ⟨g, cap, rfl, hcap1, hcap2⟩ := HD4.out.l.some (by omega)
  have hks : (bc, bc2) ∈ (P ++ [(⟨bc, bmc, bc2, tv, sv, p.g, ls, p.xs⟩ : Pr)]).map key := by simp [key]
  have HK := Lib.hid hks
  have hgl := (HD1.out.l.block g rfl).2
  have hs23 := hf3.size
  clear hr3 hf3 hf4 hpn hfn HQ2 HF2 HR2 HD1 HP1 hks
  by_cases hlt : ks.length < 4
  · go_wp2_with (fail)
    generalize hs3 : w3.heap.size = b8 at *
    generalize hw4 : w3.alloc (.cells #[.pointer (some ⟨bc, 0, none⟩), .pointer (some ⟨bc2, 0, none⟩)] 60) = w4 at *
    clear hw4
    have e0 : w4.cell? ⟨b8, 0, none⟩ = some (.pointer (some ⟨bc, 0, none⟩)) := cell_is HB8.out 0 rfl
    have e1 : w4.cell? ⟨b8, 1, none⟩ = some (.pointer (some ⟨bc2, 0, none⟩)) := cell_is HB8.out 1 rfl
    have HDD := Lib.hid (HD4.out.stay ((Fr.refl (fun _ => False) w4).drew) (Int.le_refl N))
    have hbd := lt_of_heap HD4.out.head
    have hno := own_nez HDD.out.head (by decide) HDD.out.l
    have hsrc := src_pc w4.drew (bc, bc2) w4.heap.size rfl
    have hoa := HDD.out.l.alloc (.cells #[.pointer (some ⟨bc, 0, none⟩), .pointer (some ⟨bc2, 0, none⟩)] 60)
    go_region_law (refine step_append_Own rfl _ _ 55 rfl 60 (.agg #[.pointer none, .pointer none]) 2 16 Try.underlying55 info60 rfl (by decide) (.slice (some ⟨g, 0, none⟩) ks.length cap) ks.length (ks.flatMap pc) rfl hoa (.slice (some ⟨w4.drew.heap.size, 0, none⟩) 1 1) 1 (pc (bc, bc2)) rfl hsrc (by unfold maxLen; omega) (by omega) ?_; intro v5 w5 hv5 hf5 hn5 hd5; have hh5 := hf5.get ((heap_alloc_lt _ _ _ (lt_of_heap HDD.out.head)).trans HDD.out.head) hno; have hc5 : w5.cell? ⟨bd, 0, none⟩ = some (.slice (some ⟨g, 0, none⟩) ks.length cap) := cell_is hh5 0 rfl; have hz5 := frozen_of hh5 0; obtain ⟨g5, k5, rfl, _, _⟩ := hv5.some (by omega); have HV5 := Lib.hid hv5; have HF5 := Lib.hid hf5; have HH5 := Lib.hid hh5; clear hv5 hf5 hn5 hd5 hh5)
    all_goals
      go_wp2_with (fail)
      go_ret
      exact ⟨rfl, _, _, _, _, _, HD4.out.pushed (((Fr.refl (fun _ => False) w4).drew).alloc _) HV5.out HF5.out hlt HK.out, by simp⟩
  · go_wp2_with (fail)
    generalize hs3 : w3.heap.size = b8 at *
    generalize hw4 : w3.alloc (.cells #[.pointer (some ⟨bc, 0, none⟩), .pointer (some ⟨bc2, 0, none⟩)] 60) = w4 at *
    clear hw4
    have e0 : w4.cell? ⟨b8, 0, none⟩ = some (.pointer (some ⟨bc, 0, none⟩)) := cell_is HB8.out 0 rfl
    have e1 : w4.cell? ⟨b8, 1, none⟩ = some (.pointer (some ⟨bc2, 0, none⟩)) := cell_is HB8.out 1 rfl
    have hlen4 : ks.length = 4 := by have := HD4.out.ll; omega
    have HL4 := Lib.hid hlen4
    clear hlen4
    refine wp_region_held_drew (S := fun w' => w'.cell? ⟨bd, 0, none⟩ = some (.slice (some ⟨g, 0, none⟩) ks.length cap) ∧ w'.cell? ⟨b8, 0, none⟩ = some (.pointer (some ⟨bc, 0, none⟩)) ∧ w'.cell? ⟨b8, 1, none⟩ = some (.pointer (some ⟨bc2, 0, none⟩))) (by kernel_rfl) ⟨d0, e0, e1⟩ (fun hS1 => ?_)
    refine wpAnyH_take (i := 0) (v := (.pointer (some ⟨bd, 0, none⟩))) rfl (by kernel_rfl) (by kernel_rfl) (by kernel_rfl) (fun _ _ _ h => h) (Or.inl ⟨by rfl, fun w' hS => by obtain ⟨r0, r1, r2⟩ := hS; go_simp⟩) hS1 ?_
    try simp only [Act.put, List.getElem_toArray, List.getElem_cons_zero, List.setIfInBounds_toArray, List.set_cons_zero, List.set_cons_succ]
    refine wpAnyH_take (i := 1) (v := (.pointer (some ⟨bd, 0, none⟩))) rfl (by kernel_rfl) (by kernel_rfl) (by kernel_rfl) (fun _ _ _ h => h) (Or.inl ⟨by rfl, fun w' hS => by obtain ⟨r0, r1, r2⟩ := hS; go_simp⟩) hS1 ?_
    try simp only [Act.put, List.getElem_toArray, List.getElem_cons_zero, List.getElem_cons_succ, List.setIfInBounds_toArray, List.set_cons_zero, List.set_cons_succ]
    refine wpAnyH_take (i := 2) (v := (.pointer (some ⟨bd, 0, none⟩))) rfl (by kernel_rfl) (by kernel_rfl) (by kernel_rfl) (fun _ _ _ h => h) (Or.inl ⟨by rfl, fun w' hS => by obtain ⟨r0, r1, r2⟩ := hS; go_simp⟩) hS1 ?_
    try simp only [Act.put, List.getElem_toArray, List.getElem_cons_zero, List.getElem_cons_succ, List.setIfInBounds_toArray, List.set_cons_zero, List.set_cons_succ]
    refine wpAnyH_take (i := 3) (v := (.slice (some ⟨g, 0, none⟩) ks.length cap)) rfl (by kernel_rfl) (by kernel_rfl) (by kernel_rfl) (fun _ _ _ h => h) (Or.inl ⟨by rfl, fun w' hS => by obtain ⟨r0, r1, r2⟩ := hS; go_simp⟩) hS1 ?_
    try simp only [Act.put, List.getElem_toArray, List.getElem_cons_zero, List.getElem_cons_succ, List.setIfInBounds_toArray, List.set_cons_zero, List.set_cons_succ]
    refine wpAnyH_take (i := 4) (v := (.int .i64 n)) rfl (by kernel_rfl) (by kernel_rfl) (by kernel_rfl) (fun _ _ _ h => h) (Or.inl ⟨by rfl, fun w' hS => by obtain ⟨r0, r1, r2⟩ := hS; go_simp⟩) hS1 ?_
    try simp only [Act.put, List.getElem_toArray, List.getElem_cons_zero, List.getElem_cons_succ, List.setIfInBounds_toArray, List.set_cons_zero, List.set_cons_succ]
    refine wpAnyH_take (i := 6) (v := (.agg #[.pointer (some ⟨bc, 0, none⟩), .pointer (some ⟨bc2, 0, none⟩)])) rfl (by kernel_rfl) (by kernel_rfl) (by kernel_rfl) (fun _ _ _ h => h) (Or.inl ⟨by rfl, fun w' hS => by obtain ⟨r0, r1, r2⟩ := hS; go_simp⟩) hS1 ?_
    try simp only [Act.put, List.getElem_toArray, List.getElem_cons_zero, List.getElem_cons_succ, List.setIfInBounds_toArray, List.set_cons_zero, List.set_cons_succ]
    refine wpAnyH_ready (rs := [5]) (by kernel_rfl) (by simp) ?_
    refine AllReadyH.cons rfl (fun K hK => ?_) AllReadyH.nil
    rw [if_pos (by rfl)]
    go_simp
    refine (pick_any n 4 _ hn0 hn1 (by omega)).mono ?_
    rintro e w5 ⟨k0, rfl, hk1, _, rfl⟩
    obtain ⟨hk2, hk3⟩ := hk1 (by omega)
    obtain ⟨k, rfl⟩ := Int.eq_ofNat_of_zero_le hk2
    refine hK.out _ _ hS1 (fun hS2 => ?_)
    clear hK K hk1 hk2
    try simp only [Act.put, List.getElem_toArray, List.getElem_cons_zero, List.getElem_cons_succ, List.setIfInBounds_toArray, List.set_cons_zero, List.set_cons_succ]
    refine wpAnyH_take (i := 7) (v := (.pointer (some ⟨g, k * 2, none⟩))) rfl (by kernel_rfl) (by kernel_rfl) (by kernel_rfl) (fun _ _ _ h => h) (Or.inl ⟨by rfl, fun w' hS => by have := HL4.out; go_simp⟩) hS2 ?_
    try simp only [Act.put, List.getElem_toArray, List.getElem_cons_zero, List.getElem_cons_succ, List.setIfInBounds_toArray, List.set_cons_zero, List.set_cons_succ]
    refine wpAnyH_ready (rs := [8]) (by kernel_rfl) (by simp) ?_
    refine AllReadyH.cons rfl (fun K hK => ?_) AllReadyH.nil
    rw [if_pos (by rfl)]
    have hkl : k < ks.length := by have := HL4.out; omega
    obtain ⟨cur, hgc, hcs⟩ : ∃ cur : Array Value, w4.heap[g]? = some (.cells cur 60 (0, 0)) ∧ cur.size = cap * 2 := by
      rcases HD4.out.l.2 with ⟨hv, _⟩ | ⟨g', cap', cur, hv, _, hg, _, _, h5, _⟩
      · cases hv
      · cases hv
        exact ⟨cur, hg, h5⟩
    have x0 : w4.cell? ⟨g, k * 2, none⟩ = some (cur[k * 2]'(by omega)) := cell_is hgc _ (by rw [Array.getElem?_eq_getElem])
    have x1 : w4.cell? ⟨g, k * 2 + 1, none⟩ = some (cur[k * 2 + 1]'(by omega)) := cell_is hgc _ (by rw [Array.getElem?_eq_getElem])
    have z0 := frozen_of hgc (k * 2)
    have z1 := frozen_of hgc (k * 2 + 1)
    generalize cur[k * 2]'(by omega) = u0 at x0
    generalize cur[k * 2 + 1]'(by omega) = u1 at x1
    go_simp
    have hset : Fr (fun c => c = g) w4 ((w4.setCell ⟨g, k * 2, none⟩ (.pointer (some ⟨bc, 0, none⟩))).setCell ⟨g, k * 2 + 1, none⟩ (.pointer (some ⟨bc2, 0, none⟩))).drew :=
      (((Fr.refl (fun c => c = g) w4).setCell (p := ⟨g, k * 2, none⟩) (.inl rfl) _).setCell (p := ⟨g, k * 2 + 1, none⟩) (.inl rfl) _).drew
    have hng : bd ≠ g := ne_of_types HD4.out.head hgc (by decide)
    have hn8 : b8 ≠ g := by omega
    refine hK.out _ _ ⟨cell_fr hset d0 hng, cell_fr hset e0 hn8, cell_fr hset e1 hn8⟩ (fun hHeld => ?_)
    refine wpAnyH_done (by kernel_rfl) ?_ _
    go_wp2_with (fail)
    go_ret
    exact ⟨rfl, _, _, _, _, _, HD4.out.placed (x := (bc, bc2)) (Fr.refl _ _) rfl hkl hset (fun cur' hc' => by
      exact heap_setCell_eq (k * 2 + 1) _ (heap_setCell_eq (k * 2) _ hc')) HK.out, by rw [List.length_set]; exact h1⟩

end Go.Proofs.Ytolonoabipnpfaa
