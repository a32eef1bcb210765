/- QueuePlays: a range over a queue that changes meanwhile. -/
import Derived.Test.YtolonoabipnpfaaQNested
import Derived.Test.YtolonoabipnpfaaQPt
import Derived.Test.YtolonoabipnpfaaRoundHeld
namespace Go.Proofs.Ytolonoabipnpfaa
open Go.RowKit Go.Sb
attribute [local go_sem] Oper.semAt_some

set_option maxRecDepth 100000 in
set_option maxHeartbeats 4000000 in
theorem while_any (w : World) (p : Pr) (n x : Int) (h : PRep w p) (hg : p.g < 4398046511104) (hn0 : -9223372036854775808 ≤ n) (hn1 : n ≤ 9223372036854775807) :
    Calls Try.prog 47 #[.agg #[.pointer (some ⟨p.bq, 0, none⟩), .pointer (some ⟨p.br, 0, none⟩)], .int .i64 n, .int .i64 x] w fun e w' => e = .returned (.bool true) ∧ ∃ p' : Pr, PTurn w w' p p' ∧ p'.g ≤ p.g + 1 := by
  have hlen := h.len
  have HP := Lib.hid h
  clear h
  have f1 : Fr (fun _ => False) w (((w.alloc (.cells #[.pointer (some ⟨p.bq, 0, none⟩), .pointer (some ⟨p.br, 0, none⟩)] 60)).alloc (.cells #[.int .i64 x] 3)).alloc (.cells #[.bool false] 4)) := (((Fr.refl _ w).alloc _).alloc _).alloc _
  have h3 : (((w.alloc (.cells #[.pointer (some ⟨p.bq, 0, none⟩), .pointer (some ⟨p.br, 0, none⟩)] 60)).alloc (.cells #[.int .i64 x] 3)).alloc (.cells #[.bool false] 4)).heap[w.heap.size]? = some (.cells #[.pointer (some ⟨p.bq, 0, none⟩), .pointer (some ⟨p.br, 0, none⟩)] 60 (0, 0)) := (heap_alloc_lt _ _ _ (by simp; omega)).trans ((heap_alloc_lt _ _ _ (by simp)).trans (heap_alloc_eq _ _))
  have h5 : (((w.alloc (.cells #[.pointer (some ⟨p.bq, 0, none⟩), .pointer (some ⟨p.br, 0, none⟩)] 60)).alloc (.cells #[.int .i64 x] 3)).alloc (.cells #[.bool false] 4)).heap[w.heap.size + 1]? = some (.cells #[.int .i64 x] 3 (0, 0)) := (heap_alloc_lt _ _ _ (by simp)).trans (heap_alloc_n _ _ _ (by simp))
  have h6 : (((w.alloc (.cells #[.pointer (some ⟨p.bq, 0, none⟩), .pointer (some ⟨p.br, 0, none⟩)] 60)).alloc (.cells #[.int .i64 x] 3)).alloc (.cells #[.bool false] 4)).heap[w.heap.size + 1 + 1]? = some (.cells #[.bool false] 4 (0, 0)) := heap_alloc_n _ _ _ (by simp)
  have HF1 := Lib.hid f1
  have H3 := Lib.hid h3
  have H5 := Lib.hid h5
  have H6 := Lib.hid h6
  have HR1 := Lib.hid (HP.out.r.fr f1 (fun _ _ _ h => h))
  have c1 : (((w.alloc (.cells #[.pointer (some ⟨p.bq, 0, none⟩), .pointer (some ⟨p.br, 0, none⟩)] 60)).alloc (.cells #[.int .i64 x] 3)).alloc (.cells #[.bool false] 4)).cell? ⟨w.heap.size, 1, none⟩ = some (.pointer (some ⟨p.br, 0, none⟩)) := cell_is h3 1 rfl
  clear f1 h3 h5 h6
  refine calls_of_marks Try.func47 rfl ?_
  simp only [Try.ntmps47, List.size_toArray, List.length_cons, List.length_nil, Nat.reduceAdd, Nat.reduceSub, Array.replicate_succ, Array.replicate_zero, List.push_toArray, List.append_toArray, List.nil_append, List.cons_append]
  go_wp2_with (fail)
  generalize hb3 : w.heap.size = b3 at *
  generalize hw1 : ((w.alloc (.cells #[.pointer (some ⟨p.bq, 0, none⟩), .pointer (some ⟨p.br, 0, none⟩)] 60)).alloc (.cells #[.int .i64 x] 3)).alloc (.cells #[.bool false] 4) = w1 at *
  refine (rclone_any _ p.br p.tv p.sv p.g p.xs w1 HR1.out (by omega)).mono ?_
  rintro e w2 ⟨bc, tv, sv, rfl, hr2, hf2⟩
  have HF2 := Lib.hid (HF1.out.trans hf2 (fun _ _ h => h))
  have H32 := Lib.hid (hf2.get H3.out id)
  have H52 := Lib.hid (hf2.get H5.out id)
  have H62 := Lib.hid (hf2.get H6.out id)
  have hsz1 := lt_of_heap H6.out
  have hbc : w1.heap.size ≤ bc := hr2.fb
  have HR2 := Lib.hid hr2.exact
  have HRI := Lib.hid hr2.foot_in
  have hrn : ∀ k, rfoot bc tv sv k → k < w2.heap.size := fun k hk => hr2.foot_lt (k := k) hk
  have hs2 := hf2.size
  obtain ⟨a, c, a', c', rfl, rfl⟩ := hr2.shapes
  have f7 : Fr (fun _ => False) w2 (w2.alloc (.cells #[.pointer (some ⟨bc, 0, none⟩)] 26)) := (Fr.refl _ w2).alloc _
  have q7 : (w2.alloc (.cells #[.pointer (some ⟨bc, 0, none⟩)] 26)).cell? ⟨bc, 0, none⟩ = some (.slice a p.xs.length c) := cell_is (f7.get hr2.head id) 0 rfl
  have hbcl := lt_of_heap hr2.head
  clear f7
  clear hr2 hf2 H3 H5 H6 HR1 c1 hw1
  go_wp2_with (fail)
  refine (pick_any n (p.xs.length : Int) _ hn0 hn1 (by omega)).mono ?_
  rintro e w3 ⟨at_, rfl, hk1, hk2, hw3⟩
  have HPK := Lib.hid (And.intro hk1 hk2)
  clear hk1 hk2 q7
  subst hw3
  have f3 : Fr (fun _ => False) w2 (((w2.alloc (.cells #[.pointer (some ⟨bc, 0, none⟩)] 26)).alloc (.cells #[.int .i64 at_] 3)).alloc (.cells #[.int .i64 0] 3)) := (((Fr.refl _ w2).alloc _).alloc _).alloc _
  have h7 : (((w2.alloc (.cells #[.pointer (some ⟨bc, 0, none⟩)] 26)).alloc (.cells #[.int .i64 at_] 3)).alloc (.cells #[.int .i64 0] 3)).heap[w2.heap.size]? = some (.cells #[.pointer (some ⟨bc, 0, none⟩)] 26 (0, 0)) := (heap_alloc_lt _ _ _ (by simp; omega)).trans ((heap_alloc_lt _ _ _ (by simp)).trans (heap_alloc_eq _ _))
  have h8 : (((w2.alloc (.cells #[.pointer (some ⟨bc, 0, none⟩)] 26)).alloc (.cells #[.int .i64 at_] 3)).alloc (.cells #[.int .i64 0] 3)).heap[w2.heap.size + 1]? = some (.cells #[.int .i64 at_] 3 (0, 0)) := (heap_alloc_lt _ _ _ (by simp)).trans (heap_alloc_n _ _ _ (by simp))
  have h9 : (((w2.alloc (.cells #[.pointer (some ⟨bc, 0, none⟩)] 26)).alloc (.cells #[.int .i64 at_] 3)).alloc (.cells #[.int .i64 0] 3)).heap[w2.heap.size + 1 + 1]? = some (.cells #[.int .i64 0] 3 (0, 0)) := heap_alloc_n _ _ _ (by simp)
  have hs3 : (((w2.alloc (.cells #[.pointer (some ⟨bc, 0, none⟩)] 26)).alloc (.cells #[.int .i64 at_] 3)).alloc (.cells #[.int .i64 0] 3)).heap.size = w2.heap.size + 1 + 1 + 1 := by simp
  have c30 : (((w2.alloc (.cells #[.pointer (some ⟨bc, 0, none⟩)] 26)).alloc (.cells #[.int .i64 at_] 3)).alloc (.cells #[.int .i64 0] 3)).cell? ⟨b3, 0, none⟩ = some (.pointer (some ⟨p.bq, 0, none⟩)) := cell_is (f3.get H32.out id) 0 rfl
  have HF3 := Lib.hid (HF2.out.trans f3 (fun _ _ h => h))
  have H33 := Lib.hid (f3.get H32.out id)
  have H53 := Lib.hid (f3.get H52.out id)
  have H63 := Lib.hid (f3.get H62.out id)
  have HR3 := Lib.hid (HR2.out.fr f3 (fun _ _ _ h => h))
  have H73 := Lib.hid h7
  have H83 := Lib.hid h8
  have H93 := Lib.hid h9
  have HS3 := Lib.hid hs3
  clear f3 h7 h8 h9 hs3 H32 H52 H62 HR2 HF2
  go_wp2_with (fail)
  have hs3 := HS3.out
  generalize hn2 : w2.heap.size = n2 at *
  generalize hw3 : ((w2.alloc (.cells #[.pointer (some ⟨bc, 0, none⟩)] 26)).alloc (.cells #[.int .i64 at_] 3)).alloc (.cells #[.int .i64 0] 3) = w3 at *
  refine (QI.all_any p.bq w3).mono ?_
  rintro e w4 ⟨rfl, hw4⟩
  rw [hs3]
  have f4 : Fr (fun _ => False) w3 w4 := by rw [hw4]; exact (Fr.refl _ w3).alloc _
  have hBn : w4.heap[n2 + 1 + 1 + 1]? = some (.cells #[.pointer (some ⟨p.bq, 0, none⟩)] 45 (0, 0)) := by rw [hw4, ← hs3]; exact heap_alloc_eq _ _
  have hs4 : w4.heap.size = n2 + 1 + 1 + 1 + 1 := by rw [hw4]; simp; omega
  have HF4 := Lib.hid (HF3.out.trans f4 (fun _ _ h => h))
  have H34 := Lib.hid (f4.get H33.out id)
  have H54 := Lib.hid (f4.get H53.out id)
  have H64 := Lib.hid (f4.get H63.out id)
  have H74 := Lib.hid (f4.get H73.out id)
  have H84 := Lib.hid (f4.get H83.out id)
  have H94 := Lib.hid (f4.get H93.out id)
  have HR4 := Lib.hid (HR3.out.fr f4 (fun _ _ _ h => h))
  have HP4 := Lib.hid (HP.out.fr HF4.out (fun _ _ h => h))
  have hpn : ∀ k, p.foot k → k < b3 := fun k hk => by have := HP.out.lt k hk; omega
  have hbm : p.bm < w4.heap.size := by have := HP.out.bm_lt; omega
  have hBc : w4.cell? ⟨n2 + 1 + 1 + 1, 0, none⟩ = some (.pointer (some ⟨p.bq, 0, none⟩)) := cell_is hBn 0 rfl
  clear f4 hBn hw4 H33 H53 H63 H73 H83 H93 HR3 HF3 HS3 c30 hw3
  have HLK : Hid (∀ W, Fr (fun k => p.foot k ∨ k = n2 + 1 + 1 ∨ k = b3 + 1 + 1) w4 W → W.heap[b3]? = some (.cells #[.pointer (some ⟨p.bq, 0, none⟩), .pointer (some ⟨p.br, 0, none⟩)] 60 (0, 0)) ∧ W.heap[b3 + 1]? = some (.cells #[.int .i64 x] 3 (0, 0)) ∧
      W.heap[n2]? = some (.cells #[.pointer (some ⟨bc, 0, none⟩)] 26 (0, 0)) ∧ W.heap[n2 + 1]? = some (.cells #[.int .i64 at_] 3 (0, 0)) ∧ RRep (rfoot bc (.slice a p.xs.length c) (.slice a' p.xs.length c')) W bc (.slice a p.xs.length c) (.slice a' p.xs.length c') p.g p.xs) := Lib.hid (fun W hf => by
    refine ⟨hf.get H34.out ?_, hf.get H54.out ?_, hf.get H74.out ?_, hf.get H84.out ?_, HR4.out.fr hf ?_⟩
    · rintro (h | h | h)
      · have := hpn _ h; omega
      · omega
      · omega
    · rintro (h | h | h)
      · have := hpn _ h; omega
      · omega
      · omega
    · rintro (h | h | h)
      · have := hpn _ h; omega
      · omega
      · omega
    · rintro (h | h | h)
      · have := hpn _ h; omega
      · omega
      · omega
    · rintro k _ hk (h | h | h)
      · have := hpn _ h
        have := HRI.out k hk
        omega
      · have := hrn k hk
        omega
      · have := HRI.out k hk
        omega)
  go_wp2_with (fail)
  have hG : ∀ k, (k = n2 + 1 + 1 ∨ k = b3 + 1 + 1) → k < w4.heap.size ∧ ¬ p.foot k := by
    rintro k (rfl | rfl)
    · exact ⟨by omega, fun h => by have := hpn _ h; omega⟩
    · exact ⟨by omega, fun h => by have := hpn _ h; omega⟩
  refine (wpIn_wide (n := 1)).1 ?_
  refine wpIn_rangeNext (gf := 43) (lb := #[.pointer (some ⟨n2 + 1 + 1 + 1, 0, none⟩)]) rfl (enters_of Try.func43 (by kernel_rfl) rfl)
    (QI.all_gives _ p.bq p.bm (n2 + 1 + 1 + 1) p.g w4 p.l p.xs HP4.out.q HP4.out.same (by omega) hBc) KeepBuf.trans (fun W l o o' _ hl ho _ => KeepBuf.putObj W l o o' hl ho) (Below.refl _ _) (fun _ => rfl)
    (fun pre W => W.heap[n2 + 1 + 1]? = some (.cells #[.int .i64 (pre.length : Int)] 3 (0, 0)) ∧ W.heap[b3 + 1 + 1]? = some (.cells #[.bool false] 4 (0, 0)) ∧ ∃ p', PT (fun k => k = n2 + 1 + 1 ∨ k = b3 + 1 + 1) w4 W p p' ∧ p'.g ≤ p.g + 1 ∧ ((pre.length : Int) ≤ at_ → p'.g = p.g)) (fun _ _ _ => False) ?own (fun _ _ _ _ _ h _ _ => h) ⟨H94.out, H64.out, p, PT.refl HP4.out, by omega, fun _ => rfl⟩ ?round ?done ?stop
  case own =>
    intro s A B row ⟨h1, h0, p', h2, h3⟩ hg hr
    exact ⟨(hg.block _ (lt_of_heap h1) (fun e => by have := (hr _ e.symm).1; omega)).trans h1, (hg.block _ (lt_of_heap h0) (fun e => by have := (hr _ e.symm).1; omega)).trans h0, p', h2.grown hg hr hbm, h3⟩
  case stop =>
    rintro D c pre W _ _ h _
    exact h.elim
  case round =>
    rintro l pre xx V W ⟨hi, hi6, p', hpt, hg1, hg2⟩ hnx
    obtain ⟨hx, hxl⟩ := px_at hnx
    obtain ⟨k3, k5, k7, k8, hr⟩ := HLK.out W hpt.fr
    obtain ⟨gt, ct, gs, cs, htv, hsv, ht1, ht2, ht3, ht4, t1, t2⟩ := hr.at hx
    cases htv
    cases hsv
    have i0 : W.cell? ⟨n2 + 1 + 1, 0, none⟩ = some (.int .i64 (pre.length : Int)) := cell_is hi 0 rfl
    have i7 : W.cell? ⟨n2, 0, none⟩ = some (.pointer (some ⟨bc, 0, none⟩)) := cell_is k7 0 rfl
    have q0 : W.cell? ⟨bc, 0, none⟩ = some (.slice (some ⟨gt, 0, none⟩) p.xs.length c) := cell_is hr.head 0 rfl
    have q1 : W.cell? ⟨bc, 1, none⟩ = some (.slice (some ⟨gs, 0, none⟩) p.xs.length c') := cell_is hr.head 1 rfl
    have hd1 : decide (p.xs.length ≤ pre.length) = false := by simp; omega
    have HI := Lib.hid hi
    have HI6 := Lib.hid hi6
    have HPT := Lib.hid hpt
    obtain ⟨xt, xy⟩ := xx
    dsimp only at t1 t2
    clear hi hi6 hpt hnx hx hr k3 k5 k7
    gi_wp2
    refine ⟨trivial, ?_⟩
    gi_wp2
    refine wpIn_region_quiet_round (by kernel_rfl) (by kernel_rfl) (by kernel_rfl) ?_
    repeat (gi_big_quiet_step (fail))
    refine wpQuietIn_nil ?_
    rintro _ ⟨nq, rfl⟩
    have i8 : (W.drewN nq).cell? ⟨n2 + 1, 0, none⟩ = some (.int .i64 at_) := cell_is (w := W.drewN nq) k8 0 rfl
    have HRS := Lib.hid ((RS.refl HPT.out).drewN nq)
    by_cases he : (pre.length : Int) = at_
    · have hpg := hg2 (by omega)
      have HC : Hid (∀ W', Fr (fun k => p.foot k ∨ k = n2 + 1 + 1 ∨ k = b3 + 1 + 1) w4 W' → W'.cell? ⟨b3, 0, none⟩ = some (.pointer (some ⟨p.bq, 0, none⟩)) ∧ W'.cell? ⟨b3, 1, none⟩ = some (.pointer (some ⟨p.br, 0, none⟩)) ∧ W'.cell? ⟨b3 + 1, 0, none⟩ = some (.int .i64 x) ∧ W'.cell? ⟨n2, 0, none⟩ = some (.pointer (some ⟨bc, 0, none⟩)) ∧
          W'.cell? ⟨bc, 0, none⟩ = some (.slice (some ⟨gt, 0, none⟩) p.xs.length c) ∧ W'.cell? ⟨gt, 0, none⟩ = some (.int .i64 (p.xs[0]'(by omega)).1) ∧ W'.cell? ⟨gt, p.xs.length - 1, none⟩ = some (.int .i64 (p.xs[p.xs.length - 1]'(by omega)).1)) := Lib.hid (fun W' hf => by
        obtain ⟨k3, k5, k7, k8, hr⟩ := HLK.out W' hf
        exact ⟨cell_is k3 0 rfl, cell_is k3 1 rfl, cell_is k5 0 rfl, cell_is k7 0 rfl, cell_is hr.head 0 rfl, hr.ts.cell rfl (by rw [List.getElem?_map, List.getElem?_eq_getElem (by omega)]; rfl), hr.ts.cell rfl (by rw [List.getElem?_map, List.getElem?_eq_getElem (by omega)]; rfl)⟩)
      subst he
      gi_wp2
      refine wpIn_region_held_round (S := fun w' => Fr (fun k => p.foot k ∨ k = n2 + 1 + 1 ∨ k = b3 + 1 + 1) w4 w') (by kernel_rfl) (by kernel_rfl) (fun ⟨_, _, h⟩ => h) HRS.out.pt.fr.drew (fun hS1 => ?_)
      refine wpAnyH_take (i := 0) (v := (.agg #[.pointer (some ⟨p.bq, 0, none⟩), .pointer (some ⟨p.br, 0, none⟩)])) rfl (by kernel_rfl) (by kernel_rfl) (by kernel_rfl) (fun _ _ _ h => h) (Or.inl ⟨by rfl, fun w' hS => by obtain ⟨r0, r1, r2, r3, r4, r5, r6⟩ := HC.out w' hS; go_simp⟩) hS1 ?_
      try simp only [Act.put, List.getElem_toArray, List.getElem_cons_zero, List.setIfInBounds_toArray, List.set_cons_zero, List.set_cons_succ]
      refine wpAnyH_take (i := 1) (v := (.pointer (some ⟨bc, 0, none⟩))) rfl (by kernel_rfl) (by kernel_rfl) (by kernel_rfl) (fun _ _ _ h => h) (Or.inl ⟨by rfl, fun w' hS => by obtain ⟨r0, r1, r2, r3, r4, r5, r6⟩ := HC.out w' hS; go_simp⟩) hS1 ?_
      try simp only [Act.put, List.getElem_toArray, List.getElem_cons_zero, List.getElem_cons_succ, List.setIfInBounds_toArray, List.set_cons_zero, List.set_cons_succ]
      refine wpAnyH_take (i := 2) (v := (.pointer (some ⟨bc, 0, none⟩))) rfl (by kernel_rfl) (by kernel_rfl) (by kernel_rfl) (fun _ _ _ h => h) (Or.inl ⟨by rfl, fun w' hS => by obtain ⟨r0, r1, r2, r3, r4, r5, r6⟩ := HC.out w' hS; go_simp⟩) hS1 ?_
      try simp only [Act.put, List.getElem_toArray, List.getElem_cons_zero, List.getElem_cons_succ, List.setIfInBounds_toArray, List.set_cons_zero, List.set_cons_succ]
      refine wpAnyH_take (i := 3) (v := (.pointer (some ⟨bc, 0, none⟩))) rfl (by kernel_rfl) (by kernel_rfl) (by kernel_rfl) (fun _ _ _ h => h) (Or.inl ⟨by rfl, fun w' hS => by obtain ⟨r0, r1, r2, r3, r4, r5, r6⟩ := HC.out w' hS; go_simp⟩) hS1 ?_
      try simp only [Act.put, List.getElem_toArray, List.getElem_cons_zero, List.getElem_cons_succ, List.setIfInBounds_toArray, List.set_cons_zero, List.set_cons_succ]
      refine wpAnyH_take (i := 4) (v := (.slice (some ⟨gt, 0, none⟩) p.xs.length c)) rfl (by kernel_rfl) (by kernel_rfl) (by kernel_rfl) (fun _ _ _ h => h) (Or.inl ⟨by rfl, fun w' hS => by obtain ⟨r0, r1, r2, r3, r4, r5, r6⟩ := HC.out w' hS; go_simp⟩) hS1 ?_
      try simp only [Act.put, List.getElem_toArray, List.getElem_cons_zero, List.getElem_cons_succ, List.setIfInBounds_toArray, List.set_cons_zero, List.set_cons_succ]
      refine wpAnyH_take (i := 5) (v := (.pointer (some ⟨gt, 0, none⟩))) rfl (by kernel_rfl) (by kernel_rfl) (by kernel_rfl) (fun _ _ _ h => h) (Or.inl ⟨by rfl, fun w' hS => by obtain ⟨r0, r1, r2, r3, r4, r5, r6⟩ := HC.out w' hS; go_simp; exact fun hnil => by rw [hnil] at hxl; simp at hxl⟩) hS1 ?_
      try simp only [Act.put, List.getElem_toArray, List.getElem_cons_zero, List.getElem_cons_succ, List.setIfInBounds_toArray, List.set_cons_zero, List.set_cons_succ]
      refine wpAnyH_take (i := 6) (v := (.int .i64 (p.xs[0]'(by omega)).1)) rfl (by kernel_rfl) (by kernel_rfl) (by kernel_rfl) (fun _ _ _ h => h) (Or.inl ⟨by rfl, fun w' hS => by obtain ⟨r0, r1, r2, r3, r4, r5, r6⟩ := HC.out w' hS; go_simp⟩) hS1 ?_
      try simp only [Act.put, List.getElem_toArray, List.getElem_cons_zero, List.getElem_cons_succ, List.setIfInBounds_toArray, List.set_cons_zero, List.set_cons_succ]
      refine wpAnyH_ready (rs := [7]) (by kernel_rfl) (by simp) ?_
      refine AllReadyH.cons rfl (fun K hK => ?_) AllReadyH.nil
      rw [if_pos (by rfl)]
      go_simp
      refine (leave_rs HRS.out.drew hbm hG _ (by omega)).mono ?_
      rintro e w5 ⟨rfl, p5, h5, hg5⟩
      have HRS5 := Lib.hid h5
      refine hK.out _ _ h5.pt.fr (fun hS5 => ?_)
      clear hK K h5
      try simp only [Act.put, List.getElem_toArray, List.getElem_cons_zero, List.getElem_cons_succ, List.setIfInBounds_toArray, List.set_cons_zero, List.set_cons_succ]
      refine wpAnyH_take (i := 8) (v := .bool true) rfl (by kernel_rfl) (by kernel_rfl) (by kernel_rfl) (fun _ _ _ h => h) (Or.inl ⟨by rfl, fun w' hS => by go_simp⟩) hS5 ?_
      try simp only [Act.put, List.getElem_toArray, List.getElem_cons_zero, List.getElem_cons_succ, List.setIfInBounds_toArray, List.set_cons_zero, List.set_cons_succ]
      refine wpAnyH_done (by kernel_rfl) ?_ _
      gi_wp2
      refine wpIn_region_held_round (S := fun w' => Fr (fun k => p.foot k ∨ k = n2 + 1 + 1 ∨ k = b3 + 1 + 1) w4 w') (by kernel_rfl) (by kernel_rfl) (fun ⟨_, _, h⟩ => h) HRS5.out.pt.fr.drew (fun hS6 => ?_)
      refine wpAnyH_take (i := 0) (v := (.agg #[.pointer (some ⟨p.bq, 0, none⟩), .pointer (some ⟨p.br, 0, none⟩)])) rfl (by kernel_rfl) (by kernel_rfl) (by kernel_rfl) (fun _ _ _ h => h) (Or.inl ⟨by rfl, fun w' hS => by obtain ⟨r0, r1, r2, r3, r4, r5, r6⟩ := HC.out w' hS; go_simp⟩) hS6 ?_
      try simp only [Act.put, List.getElem_toArray, List.getElem_cons_zero, List.setIfInBounds_toArray, List.set_cons_zero, List.set_cons_succ]
      refine wpAnyH_take (i := 1) (v := (.pointer (some ⟨bc, 0, none⟩))) rfl (by kernel_rfl) (by kernel_rfl) (by kernel_rfl) (fun _ _ _ h => h) (Or.inl ⟨by rfl, fun w' hS => by obtain ⟨r0, r1, r2, r3, r4, r5, r6⟩ := HC.out w' hS; go_simp⟩) hS6 ?_
      try simp only [Act.put, List.getElem_toArray, List.getElem_cons_zero, List.getElem_cons_succ, List.setIfInBounds_toArray, List.set_cons_zero, List.set_cons_succ]
      refine wpAnyH_take (i := 2) (v := (.pointer (some ⟨bc, 0, none⟩))) rfl (by kernel_rfl) (by kernel_rfl) (by kernel_rfl) (fun _ _ _ h => h) (Or.inl ⟨by rfl, fun w' hS => by obtain ⟨r0, r1, r2, r3, r4, r5, r6⟩ := HC.out w' hS; go_simp⟩) hS6 ?_
      try simp only [Act.put, List.getElem_toArray, List.getElem_cons_zero, List.getElem_cons_succ, List.setIfInBounds_toArray, List.set_cons_zero, List.set_cons_succ]
      refine wpAnyH_take (i := 3) (v := (.pointer (some ⟨bc, 0, none⟩))) rfl (by kernel_rfl) (by kernel_rfl) (by kernel_rfl) (fun _ _ _ h => h) (Or.inl ⟨by rfl, fun w' hS => by obtain ⟨r0, r1, r2, r3, r4, r5, r6⟩ := HC.out w' hS; go_simp⟩) hS6 ?_
      try simp only [Act.put, List.getElem_toArray, List.getElem_cons_zero, List.getElem_cons_succ, List.setIfInBounds_toArray, List.set_cons_zero, List.set_cons_succ]
      refine wpAnyH_take (i := 4) (v := (.slice (some ⟨gt, 0, none⟩) p.xs.length c)) rfl (by kernel_rfl) (by kernel_rfl) (by kernel_rfl) (fun _ _ _ h => h) (Or.inl ⟨by rfl, fun w' hS => by obtain ⟨r0, r1, r2, r3, r4, r5, r6⟩ := HC.out w' hS; go_simp⟩) hS6 ?_
      try simp only [Act.put, List.getElem_toArray, List.getElem_cons_zero, List.getElem_cons_succ, List.setIfInBounds_toArray, List.set_cons_zero, List.set_cons_succ]
      refine wpAnyH_take (i := 5) (v := (.pointer (some ⟨bc, 0, none⟩))) rfl (by kernel_rfl) (by kernel_rfl) (by kernel_rfl) (fun _ _ _ h => h) (Or.inl ⟨by rfl, fun w' hS => by obtain ⟨r0, r1, r2, r3, r4, r5, r6⟩ := HC.out w' hS; go_simp⟩) hS6 ?_
      try simp only [Act.put, List.getElem_toArray, List.getElem_cons_zero, List.getElem_cons_succ, List.setIfInBounds_toArray, List.set_cons_zero, List.set_cons_succ]
      refine wpAnyH_take (i := 6) (v := (.pointer (some ⟨bc, 0, none⟩))) rfl (by kernel_rfl) (by kernel_rfl) (by kernel_rfl) (fun _ _ _ h => h) (Or.inl ⟨by rfl, fun w' hS => by obtain ⟨r0, r1, r2, r3, r4, r5, r6⟩ := HC.out w' hS; go_simp⟩) hS6 ?_
      try simp only [Act.put, List.getElem_toArray, List.getElem_cons_zero, List.getElem_cons_succ, List.setIfInBounds_toArray, List.set_cons_zero, List.set_cons_succ]
      refine wpAnyH_take (i := 7) (v := (.pointer (some ⟨bc, 0, none⟩))) rfl (by kernel_rfl) (by kernel_rfl) (by kernel_rfl) (fun _ _ _ h => h) (Or.inl ⟨by rfl, fun w' hS => by obtain ⟨r0, r1, r2, r3, r4, r5, r6⟩ := HC.out w' hS; go_simp⟩) hS6 ?_
      try simp only [Act.put, List.getElem_toArray, List.getElem_cons_zero, List.getElem_cons_succ, List.setIfInBounds_toArray, List.set_cons_zero, List.set_cons_succ]
      refine wpAnyH_take (i := 8) (v := (.slice (some ⟨gt, 0, none⟩) p.xs.length c)) rfl (by kernel_rfl) (by kernel_rfl) (by kernel_rfl) (fun _ _ _ h => h) (Or.inl ⟨by rfl, fun w' hS => by obtain ⟨r0, r1, r2, r3, r4, r5, r6⟩ := HC.out w' hS; go_simp⟩) hS6 ?_
      try simp only [Act.put, List.getElem_toArray, List.getElem_cons_zero, List.getElem_cons_succ, List.setIfInBounds_toArray, List.set_cons_zero, List.set_cons_succ]
      refine wpAnyH_take (i := 9) (v := (.int .i64 (p.xs.length : Int))) rfl (by kernel_rfl) (by kernel_rfl) (by kernel_rfl) (fun _ _ _ h => h) (Or.inl ⟨by rfl, fun w' hS => by obtain ⟨r0, r1, r2, r3, r4, r5, r6⟩ := HC.out w' hS; go_simp⟩) hS6 ?_
      try simp only [Act.put, List.getElem_toArray, List.getElem_cons_zero, List.getElem_cons_succ, List.setIfInBounds_toArray, List.set_cons_zero, List.set_cons_succ]
      refine wpAnyH_take (i := 10) (v := (.int .i64 ((p.xs.length : Int) - 1))) rfl (by kernel_rfl) (by kernel_rfl) (by kernel_rfl) (fun _ _ _ h => h) (Or.inl ⟨by rfl, fun w' hS => by obtain ⟨r0, r1, r2, r3, r4, r5, r6⟩ := HC.out w' hS; go_simp; rw [IntKind.wrap_i64]; omega⟩) hS6 ?_
      try simp only [Act.put, List.getElem_toArray, List.getElem_cons_zero, List.getElem_cons_succ, List.setIfInBounds_toArray, List.set_cons_zero, List.set_cons_succ]
      refine wpAnyH_take (i := 11) (v := (.pointer (some ⟨gt, p.xs.length - 1, none⟩))) rfl (by kernel_rfl) (by kernel_rfl) (by kernel_rfl) (fun _ _ _ h => h) (Or.inl ⟨by rfl, fun w' hS => by obtain ⟨r0, r1, r2, r3, r4, r5, r6⟩ := HC.out w' hS; go_simp; exact fun hh => by have := hh (by omega); omega⟩) hS6 ?_
      try simp only [Act.put, List.getElem_toArray, List.getElem_cons_zero, List.getElem_cons_succ, List.setIfInBounds_toArray, List.set_cons_zero, List.set_cons_succ]
      refine wpAnyH_take (i := 12) (v := (.int .i64 (p.xs[p.xs.length - 1]'(by omega)).1)) rfl (by kernel_rfl) (by kernel_rfl) (by kernel_rfl) (fun _ _ _ h => h) (Or.inl ⟨by rfl, fun w' hS => by obtain ⟨r0, r1, r2, r3, r4, r5, r6⟩ := HC.out w' hS; go_simp⟩) hS6 ?_
      try simp only [Act.put, List.getElem_toArray, List.getElem_cons_zero, List.getElem_cons_succ, List.setIfInBounds_toArray, List.set_cons_zero, List.set_cons_succ]
      refine wpAnyH_ready (rs := [13]) (by kernel_rfl) (by simp) ?_
      refine AllReadyH.cons rfl (fun K hK => ?_) AllReadyH.nil
      rw [if_pos (by rfl)]
      go_simp
      refine (leave_rs HRS5.out.drew hbm hG _ (by omega)).mono ?_
      rintro e w6 ⟨rfl, p6, h6, hg6⟩
      have HRS6 := Lib.hid h6
      refine hK.out _ _ h6.pt.fr (fun hS7 => ?_)
      clear hK K h6
      try simp only [Act.put, List.getElem_toArray, List.getElem_cons_zero, List.getElem_cons_succ, List.setIfInBounds_toArray, List.set_cons_zero, List.set_cons_succ]
      refine wpAnyH_take (i := 14) (v := (.bool true)) rfl (by kernel_rfl) (by kernel_rfl) (by kernel_rfl) (fun _ _ _ h => h) (Or.inl ⟨by rfl, fun w' hS => by go_simp⟩) hS7 ?_
      try simp only [Act.put, List.getElem_toArray, List.getElem_cons_zero, List.getElem_cons_succ, List.setIfInBounds_toArray, List.set_cons_zero, List.set_cons_succ]
      refine wpAnyH_done (by kernel_rfl) ?_ _
      obtain ⟨r0, r1, r2, r3, r4, r5, r6⟩ := HC.out _ hS7
      gi_wp2
      refine ⟨trivial, rfl, CallsIn.mono (show CallsIn (Fence.wide.inRound l) 0 Try.prog 39 _ w6 _ from callsIn_wide.2 (leave_rs HRS6.out hbm hG _ (by omega))) ?_⟩
      rintro e w7 ⟨rfl, p7, h7, hg7⟩
      clear r0 r1 r2 r3 r4 r5 r6
      have HRS7 := Lib.hid h7
      clear h7
      gi_wp2
      refine wpIn_region_held_round (S := fun w' => Fr (fun k => p.foot k ∨ k = n2 + 1 + 1 ∨ k = b3 + 1 + 1) w4 w') (by kernel_rfl) (by kernel_rfl) (fun ⟨_, _, h⟩ => h) HRS7.out.pt.fr.drew (fun hS8 => ?_)
      refine wpAnyH_take (i := 0) (v := (.pointer (some ⟨b3, 0, none⟩))) rfl (by kernel_rfl) (by kernel_rfl) (by kernel_rfl) (fun _ _ _ h => h) (Or.inl ⟨by rfl, fun w' hS => by obtain ⟨r0, r1, r2, r3, r4, r5, r6⟩ := HC.out w' hS; go_simp⟩) hS8 ?_
      try simp only [Act.put, List.getElem_toArray, List.getElem_cons_zero, List.setIfInBounds_toArray, List.set_cons_zero, List.set_cons_succ]
      refine wpAnyH_take (i := 1) (v := (.pointer (some ⟨p.bq, 0, none⟩))) rfl (by kernel_rfl) (by kernel_rfl) (by kernel_rfl) (fun _ _ _ h => h) (Or.inl ⟨by rfl, fun w' hS => by obtain ⟨r0, r1, r2, r3, r4, r5, r6⟩ := HC.out w' hS; go_simp⟩) hS8 ?_
      try simp only [Act.put, List.getElem_toArray, List.getElem_cons_zero, List.getElem_cons_succ, List.setIfInBounds_toArray, List.set_cons_zero, List.set_cons_succ]
      refine wpAnyH_take (i := 2) (v := (.int .i64 x)) rfl (by kernel_rfl) (by kernel_rfl) (by kernel_rfl) (fun _ _ _ h => h) (Or.inl ⟨by rfl, fun w' hS => by obtain ⟨r0, r1, r2, r3, r4, r5, r6⟩ := HC.out w' hS; go_simp⟩) hS8 ?_
      try simp only [Act.put, List.getElem_toArray, List.getElem_cons_zero, List.getElem_cons_succ, List.setIfInBounds_toArray, List.set_cons_zero, List.set_cons_succ]
      refine wpAnyH_take (i := 4) (v := (.pointer (some ⟨b3, 1, none⟩))) rfl (by kernel_rfl) (by kernel_rfl) (by kernel_rfl) (fun _ _ _ h => h) (Or.inl ⟨by rfl, fun w' hS => by obtain ⟨r0, r1, r2, r3, r4, r5, r6⟩ := HC.out w' hS; go_simp⟩) hS8 ?_
      try simp only [Act.put, List.getElem_toArray, List.getElem_cons_zero, List.getElem_cons_succ, List.setIfInBounds_toArray, List.set_cons_zero, List.set_cons_succ]
      refine wpAnyH_take (i := 5) (v := (.pointer (some ⟨p.br, 0, none⟩))) rfl (by kernel_rfl) (by kernel_rfl) (by kernel_rfl) (fun _ _ _ h => h) (Or.inl ⟨by rfl, fun w' hS => by obtain ⟨r0, r1, r2, r3, r4, r5, r6⟩ := HC.out w' hS; go_simp⟩) hS8 ?_
      try simp only [Act.put, List.getElem_toArray, List.getElem_cons_zero, List.getElem_cons_succ, List.setIfInBounds_toArray, List.set_cons_zero, List.set_cons_succ]
      refine wpAnyH_take (i := 6) (v := (.int .i64 x)) rfl (by kernel_rfl) (by kernel_rfl) (by kernel_rfl) (fun _ _ _ h => h) (Or.inl ⟨by rfl, fun w' hS => by obtain ⟨r0, r1, r2, r3, r4, r5, r6⟩ := HC.out w' hS; go_simp⟩) hS8 ?_
      try simp only [Act.put, List.getElem_toArray, List.getElem_cons_zero, List.getElem_cons_succ, List.setIfInBounds_toArray, List.set_cons_zero, List.set_cons_succ]
      refine wpAnyH_ready (rs := [3]) (by kernel_rfl) (by simp) ?_
      refine AllReadyH.cons rfl (fun K hK => ?_) AllReadyH.nil
      rw [if_pos (by rfl)]
      go_simp
      have hq7 := HRS7.out.drew.pt.rep
      have hj := QI.join_any (Sb.foot p7.bq p7.bm p7.l) p7.bq p7.bm p7.g x w7.drew p7.l hq7.q hq7.g0 (by omega) hq7.le
      rw [HRS7.out.pt.bq] at hj
      refine hj.mono ?_
      rintro e w8 hj8
      rw [← HRS7.out.pt.bq] at hj8
      obtain ⟨rfl, hb8, hf8⟩ := id hj8
      have hr8 := hq7.r.fr hf8 (fun k _ hk hk' => hq7.dj k hk' hk)
      have hS9 : Fr (fun k => p.foot k ∨ k = n2 + 1 + 1 ∨ k = b3 + 1 + 1) w4 w8 := HRS7.out.drew.pt.fr.trans hf8 (fun k hk hk' => .inl ((HRS7.out.pt.fo k (.inl hk')).elim id (fun h => by omega)))
      have HJ8 := Lib.hid hj8
      have HR8 := Lib.hid hr8
      refine hK.out _ _ hS9 (fun hS9 => ?_)
      clear hK K hb8 hf8 hj hj8 hr8
      try simp only [Act.put, List.getElem_toArray, List.getElem_cons_zero, List.getElem_cons_succ, List.setIfInBounds_toArray, List.set_cons_zero, List.set_cons_succ]
      refine wpAnyH_ready (rs := [7]) (by kernel_rfl) (by simp) ?_
      refine AllReadyH.cons rfl (fun K hK => ?_) AllReadyH.nil
      rw [if_pos (by rfl)]
      go_simp
      have hj := rjoin_any (rfoot p7.br p7.tv p7.sv) p7.br p7.tv p7.sv p7.g x p7.xs w8 HR8.out hq7.g0 (by omega) (by have := hq7.len; omega)
      rw [HRS7.out.pt.br] at hj
      refine hj.mono ?_
      rintro e w9 ⟨rfl, hb9, hf9⟩
      rw [← HRS7.out.pt.br] at hb9 hf9
      obtain ⟨p9, h9, hg9, _⟩ := hq7.joined HJ8.out ⟨hb9, hf9⟩
      have HRS9 := Lib.hid (HRS7.out.drew.turn hbm hG h9)
      refine hK.out _ _ HRS9.out.pt.fr (fun hS10 => ?_)
      clear hK K hb9 hf9 hj h9 HJ8 HR8 hq7
      try simp only [Act.put, List.getElem_toArray, List.getElem_cons_zero, List.getElem_cons_succ, List.setIfInBounds_toArray, List.set_cons_zero, List.set_cons_succ]
      refine wpAnyH_take (i := 8) (v := (.bool false)) rfl (by kernel_rfl) (by kernel_rfl) (by kernel_rfl) (fun _ _ _ h => h) (Or.inl ⟨by rfl, fun w' hS => by go_simp⟩) hS10 ?_
      try simp only [Act.put, List.getElem_toArray, List.getElem_cons_zero, List.getElem_cons_succ, List.setIfInBounds_toArray, List.set_cons_zero, List.set_cons_succ]
      refine wpAnyH_take (i := 9) (v := (.bool false)) rfl (by kernel_rfl) (by kernel_rfl) (by kernel_rfl) (fun _ _ _ h => h) (Or.inl ⟨by rfl, fun w' hS => by go_simp⟩) hS10 ?_
      try simp only [Act.put, List.getElem_toArray, List.getElem_cons_zero, List.getElem_cons_succ, List.setIfInBounds_toArray, List.set_cons_zero, List.set_cons_succ]
      refine wpAnyH_take (i := 10) (v := (.bool true)) rfl (by kernel_rfl) (by kernel_rfl) (by kernel_rfl) (fun _ _ _ h => h) (Or.inl ⟨by rfl, fun w' hS => by go_simp⟩) hS10 ?_
      try simp only [Act.put, List.getElem_toArray, List.getElem_cons_zero, List.getElem_cons_succ, List.setIfInBounds_toArray, List.set_cons_zero, List.set_cons_succ]
      refine wpAnyH_take (i := 11) (v := (.bool false)) rfl (by kernel_rfl) (by kernel_rfl) (by kernel_rfl) (fun _ _ _ h => h) (Or.inl ⟨by rfl, fun w' hS => by go_simp⟩) hS10 ?_
      try simp only [Act.put, List.getElem_toArray, List.getElem_cons_zero, List.getElem_cons_succ, List.setIfInBounds_toArray, List.set_cons_zero, List.set_cons_succ]
      refine wpAnyH_take (i := 12) (v := (.bool false)) rfl (by kernel_rfl) (by kernel_rfl) (by kernel_rfl) (fun _ _ _ h => h) (Or.inl ⟨by rfl, fun w' hS => by go_simp⟩) hS10 ?_
      try simp only [Act.put, List.getElem_toArray, List.getElem_cons_zero, List.getElem_cons_succ, List.setIfInBounds_toArray, List.set_cons_zero, List.set_cons_succ]
      refine wpAnyH_take (i := 13) (v := (.bool false)) rfl (by kernel_rfl) (by kernel_rfl) (by kernel_rfl) (fun _ _ _ h => h) (Or.inl ⟨by rfl, fun w' hS => by go_simp⟩) hS10 ?_
      try simp only [Act.put, List.getElem_toArray, List.getElem_cons_zero, List.getElem_cons_succ, List.setIfInBounds_toArray, List.set_cons_zero, List.set_cons_succ]
      refine wpAnyH_take (i := 14) (v := (.bool true)) rfl (by kernel_rfl) (by kernel_rfl) (by kernel_rfl) (fun _ _ _ h => h) (Or.inl ⟨by rfl, fun w' hS => by go_simp⟩) hS10 ?_
      try simp only [Act.put, List.getElem_toArray, List.getElem_cons_zero, List.getElem_cons_succ, List.setIfInBounds_toArray, List.set_cons_zero, List.set_cons_succ]
      refine wpAnyH_take (i := 15) (v := (.bool false)) rfl (by kernel_rfl) (by kernel_rfl) (by kernel_rfl) (fun _ _ _ h => h) (Or.inl ⟨by rfl, fun w' hS => by go_simp⟩) hS10 ?_
      try simp only [Act.put, List.getElem_toArray, List.getElem_cons_zero, List.getElem_cons_succ, List.setIfInBounds_toArray, List.set_cons_zero, List.set_cons_succ]
      refine wpAnyH_take (i := 16) (v := (.bool false)) rfl (by kernel_rfl) (by kernel_rfl) (by kernel_rfl) (fun _ _ _ h => h) (Or.inl ⟨by rfl, fun w' hS => by go_simp⟩) hS10 ?_
      try simp only [Act.put, List.getElem_toArray, List.getElem_cons_zero, List.getElem_cons_succ, List.setIfInBounds_toArray, List.set_cons_zero, List.set_cons_succ]
      refine wpAnyH_take (i := 17) (v := (.bool false)) rfl (by kernel_rfl) (by kernel_rfl) (by kernel_rfl) (fun _ _ _ h => h) (Or.inl ⟨by rfl, fun w' hS => by go_simp⟩) hS10 ?_
      try simp only [Act.put, List.getElem_toArray, List.getElem_cons_zero, List.getElem_cons_succ, List.setIfInBounds_toArray, List.set_cons_zero, List.set_cons_succ]
      refine wpAnyH_take (i := 18) (v := (.bool true)) rfl (by kernel_rfl) (by kernel_rfl) (by kernel_rfl) (fun _ _ _ h => h) (Or.inl ⟨by rfl, fun w' hS => by go_simp⟩) hS10 ?_
      try simp only [Act.put, List.getElem_toArray, List.getElem_cons_zero, List.getElem_cons_succ, List.setIfInBounds_toArray, List.set_cons_zero, List.set_cons_succ]
      refine wpAnyH_take (i := 19) (v := (.bool false)) rfl (by kernel_rfl) (by kernel_rfl) (by kernel_rfl) (fun _ _ _ h => h) (Or.inl ⟨by rfl, fun w' hS => by go_simp⟩) hS10 ?_
      try simp only [Act.put, List.getElem_toArray, List.getElem_cons_zero, List.getElem_cons_succ, List.setIfInBounds_toArray, List.set_cons_zero, List.set_cons_succ]
      refine wpAnyH_take (i := 20) (v := (.bool false)) rfl (by kernel_rfl) (by kernel_rfl) (by kernel_rfl) (fun _ _ _ h => h) (Or.inl ⟨by rfl, fun w' hS => by go_simp⟩) hS10 ?_
      try simp only [Act.put, List.getElem_toArray, List.getElem_cons_zero, List.getElem_cons_succ, List.setIfInBounds_toArray, List.set_cons_zero, List.set_cons_succ]
      refine wpAnyH_done (by kernel_rfl) ?_ _
      have hi9 := (HRS9.out.kg (n2 + 1 + 1) (.inl rfl)).trans HI.out
      have i9 : w9.cell? ⟨n2 + 1 + 1, 0, none⟩ = some (.int .i64 (pre.length : Int)) := cell_is hi9 0 rfl
      have z9 := frozen_of hi9 0
      clear hi9
      gi_wp2
      obtain ⟨e1, e2, e3, e4⟩ := HRS9.out.set hG HI.out (by decide) (.inl rfl) (.int .i64 ((pre.length : Int) + 1))
      exact ⟨e2, e3, by simpa using e4, (heap_setCell_ne _ _ _ _ (show b3 + 1 + 1 ≠ n2 + 1 + 1 by omega)).trans ((HRS9.out.kg _ (.inr rfl)).trans HI6.out), p9, e1, by omega, fun h => by simp at h; omega⟩
    · have hi9 := (HRS.out.kg (n2 + 1 + 1) (.inl rfl)).trans HI.out
      have i9 : (W.drewN nq).cell? ⟨n2 + 1 + 1, 0, none⟩ = some (.int .i64 (pre.length : Int)) := cell_is hi9 0 rfl
      have z9 := frozen_of hi9 0
      clear hi9
      gi_wp2
      obtain ⟨e1, e2, e3, e4⟩ := HRS.out.set hG HI.out (by decide) (.inl rfl) (.int .i64 ((pre.length : Int) + 1))
      exact ⟨e2, e3, by simpa using e4, (heap_setCell_ne _ _ _ _ (show b3 + 1 + 1 ≠ n2 + 1 + 1 by omega)).trans ((HRS.out.kg _ (.inr rfl)).trans HI6.out), p', e1, hg1, fun h => hg2 (by simp at h; omega)⟩
  case done =>
    rintro D ys W hD rfl ⟨hi, hi6, p', hpt, hg1, hg2⟩ hK
    obtain ⟨k3, k5, k7, k8, hr⟩ := HLK.out W hpt.fr
    have i0 : W.cell? ⟨n2 + 1 + 1, 0, none⟩ = some (.int .i64 (p.xs.length : Int)) := cell_is hi 0 rfl
    have i7 : W.cell? ⟨n2, 0, none⟩ = some (.pointer (some ⟨bc, 0, none⟩)) := cell_is k7 0 rfl
    have q0 : W.cell? ⟨bc, 0, none⟩ = some (.slice a p.xs.length c) := cell_is hr.head 0 rfl
    have i4 : W.cell? ⟨b3 + 1 + 1, 0, none⟩ = some (.bool false) := cell_is hi6 0 rfl
    have z4 := frozen_of hi6 0
    have HK := Lib.hid hK
    have HPT := Lib.hid hpt
    have hDo : D ≠ b3 + 1 + 1 := by omega
    clear hi hi6 hK hpt k3 k5 k7 k8 hr
    go_wp2_with (fail)
    go_still_tail 7, (by kernel_rfl)
    change wpList _ _ _ _ _ W.drew
    go_wp2_with (fail)
    have hK' : (W.setCell ⟨b3 + 1 + 1, 0, none⟩ (.bool true)).drew.heap[D]? = some (.deferred (some [])) := (heap_setCell_ne _ _ _ _ hDo).trans HK.out
    refine ⟨by simp, .inl ⟨_, _, rfl, run_takeDeferred hK', ?_⟩⟩
    have hc5 : ((W.setCell ⟨b3 + 1 + 1, 0, none⟩ (.bool true)).drew.putObj D (.deferred none)).cell? ⟨b3 + 1 + 1, 0, none⟩ = some (.bool true) := by
      rw [cell?_putObj _ _ _ _ (Ne.symm hDo)]
      exact World.cell?_setCell_same' W _ _ (by rw [i4]; rfl)
    have hDn : ¬ p'.foot D := fun h => by
      have h1 := HPT.out.rep.foot_map h HK.out rfl
      rw [HPT.out.bm] at h1
      omega
    have hlast : Fr (fun k => k = b3 + 1 + 1 ∨ k = D) W ((W.setCell ⟨b3 + 1 + 1, 0, none⟩ (.bool true)).drew.putObj D (.deferred none)) := (((Fr.refl (fun k => k = b3 + 1 + 1 ∨ k = D) W).setCell (p := ⟨b3 + 1 + 1, 0, none⟩) (.inl (.inl rfl)) _).drew).putObj (.inl (.inr rfl)) _
    refine ⟨.bool true, ?_, rfl, p', PT.toTurn HF4.out (HPT.out.set hlast ?_ ?_) ?_, hg1⟩
    · simp [results, Try.f47, go_sem, hc5]
    · rintro k (rfl | rfl)
      · exact .inl (.inr rfl)
      · exact .inr hD
    · rintro k hk (rfl | rfl)
      · exact HPT.out.not hG _ (.inr rfl) hk
      · exact hDn hk
    · rintro k (rfl | rfl)
      · show w.heap.size ≤ n2 + 1 + 1
        omega
      · show w.heap.size ≤ b3 + 1 + 1
        omega

end Go.Proofs.Ytolonoabipnpfaa
