/- QueuePlays: a range that is left early. -/
import Derived.Test.YtolonoabipnpfaaQWhole
namespace Go.Proofs.Ytolonoabipnpfaa
open Go.RowKit Go.Sb
attribute [local go_sem] Oper.semAt_some

set_option maxRecDepth 100000 in
set_option maxHeartbeats 4000000 in
theorem early_any (w : World) (p : Pr) (Bn : Nat) (many : Int) (h : PRep w p) (hg : p.g ≤ 4398046511104) (hB : w.heap[Bn]? = some (.cells #[.pointer (some ⟨p.bq, 0, none⟩)] 45 (0, 0))) (hm : 1 ≤ many) (hm2 : many ≤ 1000) :
    Calls Try.prog 46 #[.func (.func 43) #[] #[.pointer (some ⟨Bn, 0, none⟩)], .pointer (some ⟨p.br, 0, none⟩), .int .i64 many] w fun e w' => e = .returned (.bool true) ∧ Fr (fun _ => False) w w' := by
  have hlen := h.len
  have HP := Lib.hid h
  have HB := Lib.hid hB
  have hBl := lt_of_heap hB
  clear h hB
  have f1 : Fr (fun _ => False) w ((((w.alloc (.cells #[.pointer (some ⟨p.br, 0, none⟩)] 26)).alloc (.cells #[.int .i64 many] 3)).alloc (.cells #[.bool false] 4)).alloc (.cells #[.int .i64 0] 3)) := ((((Fr.refl _ w).alloc _).alloc _).alloc _).alloc _
  have h4 : ((((w.alloc (.cells #[.pointer (some ⟨p.br, 0, none⟩)] 26)).alloc (.cells #[.int .i64 many] 3)).alloc (.cells #[.bool false] 4)).alloc (.cells #[.int .i64 0] 3)).heap[w.heap.size]? = some (.cells #[.pointer (some ⟨p.br, 0, none⟩)] 26 (0, 0)) := (heap_alloc_lt _ _ _ (by simp; omega)).trans ((heap_alloc_lt _ _ _ (by simp; omega)).trans ((heap_alloc_lt _ _ _ (by simp)).trans (heap_alloc_eq _ _)))
  have h5 : ((((w.alloc (.cells #[.pointer (some ⟨p.br, 0, none⟩)] 26)).alloc (.cells #[.int .i64 many] 3)).alloc (.cells #[.bool false] 4)).alloc (.cells #[.int .i64 0] 3)).heap[w.heap.size + 1]? = some (.cells #[.int .i64 many] 3 (0, 0)) := (heap_alloc_lt _ _ _ (by simp)).trans ((heap_alloc_lt _ _ _ (by simp)).trans (heap_alloc_n _ _ _ (by simp)))
  have h6 : ((((w.alloc (.cells #[.pointer (some ⟨p.br, 0, none⟩)] 26)).alloc (.cells #[.int .i64 many] 3)).alloc (.cells #[.bool false] 4)).alloc (.cells #[.int .i64 0] 3)).heap[w.heap.size + 1 + 1]? = some (.cells #[.bool false] 4 (0, 0)) := (heap_alloc_lt _ _ _ (by simp)).trans (heap_alloc_n _ _ _ (by simp))
  have h7 : ((((w.alloc (.cells #[.pointer (some ⟨p.br, 0, none⟩)] 26)).alloc (.cells #[.int .i64 many] 3)).alloc (.cells #[.bool false] 4)).alloc (.cells #[.int .i64 0] 3)).heap[w.heap.size + 1 + 1 + 1]? = some (.cells #[.int .i64 0] 3 (0, 0)) := heap_alloc_n _ _ _ (by simp)
  have HF3 := Lib.hid f1
  have H43 := Lib.hid h4
  have H53 := Lib.hid h5
  have H63 := Lib.hid h6
  have H73 := Lib.hid h7
  clear f1 h4 h5 h6 h7
  refine calls_of_marks Try.func46 rfl ?_
  simp only [Try.ntmps46, List.size_toArray, List.length_cons, List.length_nil, Nat.reduceAdd, Nat.reduceSub, Array.replicate_succ, Array.replicate_zero, List.push_toArray, List.append_toArray, List.nil_append, List.cons_append]
  go_wp2_with (fail)
  generalize hb4 : w.heap.size = b4 at *
  generalize hw3 : (((w.alloc (.cells #[.pointer (some ⟨p.br, 0, none⟩)] 26)).alloc (.cells #[.int .i64 many] 3)).alloc (.cells #[.bool false] 4)).alloc (.cells #[.int .i64 0] 3) = w3 at *
  have HP3 := Lib.hid (HP.out.fr HF3.out (fun _ _ h => h))
  have hrn : ∀ k, rfoot p.br p.tv p.sv k → k < b4 := fun k hk => by have := HP.out.lt k (.inr hk); omega
  have hBc : w3.cell? ⟨Bn, 0, none⟩ = some (.pointer (some ⟨p.bq, 0, none⟩)) := cell_is (HF3.out.get HB.out id) 0 rfl
  have hsz3 := lt_of_heap H73.out
  refine (wpIn_wide (n := 1)).1 ?_
  refine wpIn_rangeNext (gf := 43) (lb := #[.pointer (some ⟨Bn, 0, none⟩)]) rfl (enters_of Try.func43 (by kernel_rfl) rfl)
    (QI.all_gives _ p.bq p.bm Bn p.g w3 p.l p.xs HP3.out.q HP3.out.same (by omega) hBc) KeepBuf.trans (fun W l o o' _ hl ho _ => KeepBuf.putObj W l o o' hl ho) (Below.refl _ _) (fun _ => rfl)
    (fun pre W => W.heap[b4 + 1 + 1 + 1]? = some (.cells #[.int .i64 (pre.length : Int)] 3 (0, 0)) ∧ (pre.length : Int) < many ∧ Fr (fun k => k = b4 + 1 + 1 + 1) w3 W)
    (fun c _ W => c = .exit 0 ∧ W.heap[b4 + 1 + 1 + 1]? = some (.cells #[.int .i64 many] 3 (0, 0)) ∧ Fr (fun k => k = b4 + 1 + 1 + 1) w3 W) ?own ?own2 ⟨H73.out, by simp; omega, Fr.refl _ _⟩ ?round ?done ?stop
  case own =>
    intro s A B row ⟨h1, h3, h2⟩ hg hr
    exact ⟨(hg.block _ (lt_of_heap h1) (fun e => by have := (hr _ e.symm).1; omega)).trans h1, h3, h2.grown hg (fun k e => .inr (hr k e).1)⟩
  case own2 =>
    intro c0 s A B row ⟨h3, h1, h2⟩ hg hr
    exact ⟨h3, (hg.block _ (lt_of_heap h1) (fun e => by have := (hr _ e.symm).1; omega)).trans h1, h2.grown hg (fun k e => .inr (hr k e).1)⟩
  case round =>
    rintro l pre x V W ⟨hi, hlt, hf⟩ hnx
    obtain ⟨hx, hxl⟩ := px_at hnx
    have hr := HP3.out.r.fr hf (fun k _ hk e => by have := hrn k hk; omega)
    obtain ⟨gt, ct, gs, cs, htv, hsv, ht1, ht2, ht3, ht4, t1, t2⟩ := hr.at hx
    have i0 : W.cell? ⟨b4 + 1 + 1 + 1, 0, none⟩ = some (.int .i64 (pre.length : Int)) := cell_is hi 0 rfl
    have i1 := frozen_of hi 0
    have i5 : W.cell? ⟨b4, 0, none⟩ = some (.pointer (some ⟨p.br, 0, none⟩)) := cell_is (hf.get H43.out (fun e => by omega)) 0 rfl
    have i8 : W.cell? ⟨b4 + 1, 0, none⟩ = some (.int .i64 many) := cell_is (hf.get H53.out (fun e => by omega)) 0 rfl
    have q0 : W.cell? ⟨p.br, 0, none⟩ = some (.slice (some ⟨gt, 0, none⟩) p.xs.length ct) := (show W.cell? ⟨p.br, 0, none⟩ = some p.tv from cell_is hr.head 0 rfl).trans (by rw [htv])
    have q1 : W.cell? ⟨p.br, 1, none⟩ = some (.slice (some ⟨gs, 0, none⟩) p.xs.length cs) := (show W.cell? ⟨p.br, 1, none⟩ = some p.sv from cell_is hr.head 1 rfl).trans (by rw [hsv])
    have HI := Lib.hid hi
    have HF := Lib.hid hf
    have H5W := Lib.hid (hf.get H53.out (fun e => by omega))
    obtain ⟨xt, xx⟩ := x
    dsimp only at t1 t2
    have hd1 : decide (p.xs.length ≤ pre.length) = false := by simp; omega
    clear hi hf hnx hx hr htv hsv
    gi_wp2
    refine ⟨trivial, ?_⟩
    gi_wp2
    refine wpIn_region_quiet_round (by kernel_rfl) (by kernel_rfl) (by kernel_rfl) ?_
    repeat (gi_big_quiet_step (fail))
    refine wpQuietIn_nil ?_
    rintro _ ⟨nq, rfl⟩
    have hs8 := heap_setCell_eq (w := W.drewN nq) 0 (.int .i64 ((pre.length : Int) + 1)) HI.out
    simp only [List.setIfInBounds_toArray, List.set_cons_zero] at hs8
    have i0s : ((W.drewN nq).setCell ⟨b4 + 1 + 1 + 1, 0, none⟩ (.int .i64 ((pre.length : Int) + 1))).cell? ⟨b4 + 1 + 1 + 1, 0, none⟩ = some (.int .i64 ((pre.length : Int) + 1)) := cell_is hs8 0 rfl
    have i8s : ((W.drewN nq).setCell ⟨b4 + 1 + 1 + 1, 0, none⟩ (.int .i64 ((pre.length : Int) + 1))).cell? ⟨b4 + 1, 0, none⟩ = some (.int .i64 many) := cell_is ((heap_setCell_ne _ _ _ _ (show b4 + 1 ≠ b4 + 1 + 1 + 1 by omega)).trans H5W.out) 0 rfl
    have HS8 := Lib.hid hs8
    have HKB : Hid (KeepBuf 96 W ((W.drewN nq).setCell ⟨b4 + 1 + 1 + 1, 0, none⟩ (.int .i64 ((pre.length : Int) + 1)))) := Lib.hid (KeepBuf.of_fr (((Fr.refl (fun k => k = b4 + 1 + 1 + 1) W).drewN nq).setCell (.inl rfl) _) (fun k cs hk hc => by
      subst hk
      exact absurd rfl (ne_of_types HI.out hc (by decide))))
    clear hs8
    by_cases hmx : many ≤ (pre.length : Int) + 1
    · have he : (pre.length : Int) + 1 = many := by omega
      rw [he] at i0s HS8
      gi_wp2
      refine ⟨keeps_drewN (KeepsOthers.setCell (W.drewN nq) _ _), rfl, ?_, (HF.out.drewN nq).setCell (.inl rfl) _⟩
      exact HS8.out
    · gi_wp2
      exact ⟨keeps_drewN (KeepsOthers.setCell (W.drewN nq) _ _), HKB.out, by simpa using HS8.out, by simp; omega, (HF.out.drewN nq).setCell (.inl rfl) _⟩
  case done =>
    rintro D ys W hD rfl ⟨hi, hlt, hf⟩ hK
    have hne : ((p.xs.length : Int) == many) = false := by simp; omega
    have i0 : W.cell? ⟨b4 + 1 + 1 + 1, 0, none⟩ = some (.int .i64 (p.xs.length : Int)) := cell_is hi 0 rfl
    have hr := HP3.out.r.fr hf (fun k _ hk e => by have := hrn k hk; omega)
    obtain ⟨a, c, a', c', htv, hsv⟩ := hr.shapes
    have q0 : W.cell? ⟨p.br, 0, none⟩ = some (.slice a p.xs.length c) := (show W.cell? ⟨p.br, 0, none⟩ = some p.tv from cell_is hr.head 0 rfl).trans (by rw [htv])
    have i5 : W.cell? ⟨b4, 0, none⟩ = some (.pointer (some ⟨p.br, 0, none⟩)) := cell_is (hf.get H43.out (fun e => by omega)) 0 rfl
    have i8 : W.cell? ⟨b4 + 1, 0, none⟩ = some (.int .i64 many) := cell_is (hf.get H53.out (fun e => by omega)) 0 rfl
    have h4 := hf.get H63.out (fun e => by omega)
    have i4 : W.cell? ⟨b4 + 1 + 1, 0, none⟩ = some (.bool false) := cell_is h4 0 rfl
    have z4 := frozen_of h4 0
    have HK := Lib.hid hK
    have HF := Lib.hid hf
    have hDo : D ≠ b4 + 1 + 1 := by omega
    clear hi hf hK hr h4 htv hsv
    go_wp2_with (fail)
    go_still_tail 12, (by kernel_rfl)
    change wpList _ _ _ _ _ W.drew
    go_wp2_with (fail)
    have hK' : (W.setCell ⟨b4 + 1 + 1, 0, none⟩ (.bool true)).drew.heap[D]? = some (.deferred (some [])) := (heap_setCell_ne _ _ _ _ hDo).trans HK.out
    refine ⟨by simp, .inl ⟨_, _, rfl, run_takeDeferred hK', ?_⟩⟩
    have hc5 : ((W.setCell ⟨b4 + 1 + 1, 0, none⟩ (.bool true)).drew.putObj D (.deferred none)).cell? ⟨b4 + 1 + 1, 0, none⟩ = some (.bool true) := by
      rw [cell?_putObj _ _ _ _ (Ne.symm hDo)]
      exact World.cell?_setCell_same' W _ _ (by rw [i4]; rfl)
    have hs3 := HF3.out.size
    refine ⟨.bool true, ?_, rfl, (((HF3.out.trans HF.out (fun k hk e => by omega)).setCell (p := ⟨b4 + 1 + 1, 0, none⟩) (.inr (show w.heap.size ≤ b4 + 1 + 1 by omega)) _).drew).putObj (.inr (by omega)) _⟩
    simp [results, Try.f46, go_sem, hc5]
  case stop =>
    rintro D c0 pre W hD _ ⟨rfl, hi, hf⟩ hK
    have hne : (many == many) = true := by simp
    gi_wp2
    have i0 : W.cell? ⟨b4 + 1 + 1 + 1, 0, none⟩ = some (.int .i64 many) := cell_is hi 0 rfl
    have hr := HP3.out.r.fr hf (fun k _ hk e => by have := hrn k hk; omega)
    obtain ⟨a, c, a', c', htv, hsv⟩ := hr.shapes
    have q0 : W.cell? ⟨p.br, 0, none⟩ = some (.slice a p.xs.length c) := (show W.cell? ⟨p.br, 0, none⟩ = some p.tv from cell_is hr.head 0 rfl).trans (by rw [htv])
    have i5 : W.cell? ⟨b4, 0, none⟩ = some (.pointer (some ⟨p.br, 0, none⟩)) := cell_is (hf.get H43.out (fun e => by omega)) 0 rfl
    have i8 : W.cell? ⟨b4 + 1, 0, none⟩ = some (.int .i64 many) := cell_is (hf.get H53.out (fun e => by omega)) 0 rfl
    have h4 := hf.get H63.out (fun e => by omega)
    have i4 : W.cell? ⟨b4 + 1 + 1, 0, none⟩ = some (.bool false) := cell_is h4 0 rfl
    have z4 := frozen_of h4 0
    have HK := Lib.hid hK
    have HF := Lib.hid hf
    have hDo : D ≠ b4 + 1 + 1 := by omega
    clear hi hf hK hr h4 htv hsv
    go_wp2_with (fail)
    refine wp_region_noPanic ?_
    refine wp_region_held_drew (S := fun w' => w'.cell? ⟨b4 + 1 + 1 + 1, 0, none⟩ = some (.int .i64 many) ∧ w'.cell? ⟨b4 + 1, 0, none⟩ = some (.int .i64 many)) (by kernel_rfl) ⟨i0, i8⟩ (fun hS1 => ?_)
    refine wpAnyH_take (i := 0) (v := (.int .i64 many)) rfl (by kernel_rfl) (by kernel_rfl) (by kernel_rfl) (fun _ _ _ h => h) (Or.inl ⟨by rfl, fun w' hS => by obtain ⟨q0, q1⟩ := hS; go_simp⟩) hS1 ?_
    try simp only [Act.put, List.getElem_toArray, List.getElem_cons_zero, List.setIfInBounds_toArray, List.set_cons_zero, List.set_cons_succ]
    refine wpAnyH_take (i := 1) (v := (.int .i64 many)) rfl (by kernel_rfl) (by kernel_rfl) (by kernel_rfl) (fun _ _ _ h => h) (Or.inl ⟨by rfl, fun w' hS => by obtain ⟨q0, q1⟩ := hS; go_simp⟩) hS1 ?_
    try simp only [Act.put, List.getElem_toArray, List.getElem_cons_zero, List.getElem_cons_succ, List.setIfInBounds_toArray, List.set_cons_zero, List.set_cons_succ]
    refine wpAnyH_take (i := 2) (v := (.bool true)) rfl (by kernel_rfl) (by kernel_rfl) (by kernel_rfl) (fun _ _ _ h => h) (Or.inl ⟨by rfl, fun w' hS => by obtain ⟨q0, q1⟩ := hS; go_simp⟩) hS1 ?_
    try simp only [Act.put, List.getElem_toArray, List.getElem_cons_zero, List.getElem_cons_succ, List.setIfInBounds_toArray, List.set_cons_zero, List.set_cons_succ]
    refine wpAnyH_take (i := 3) (v := (.bool true)) rfl (by kernel_rfl) (by kernel_rfl) (by kernel_rfl) (fun _ _ _ h => h) (Or.inl ⟨by rfl, fun w' hS => by obtain ⟨q0, q1⟩ := hS; go_simp⟩) hS1 ?_
    try simp only [Act.put, List.getElem_toArray, List.getElem_cons_zero, List.getElem_cons_succ, List.setIfInBounds_toArray, List.set_cons_zero, List.set_cons_succ]
    refine wpAnyH_take (i := 4) (v := undef) rfl (by kernel_rfl) (by kernel_rfl) (by kernel_rfl) (fun _ _ _ h => h) (Or.inr ⟨by rfl, rfl⟩) hS1 ?_
    try simp only [Act.put, List.getElem_toArray, List.getElem_cons_zero, List.getElem_cons_succ, List.setIfInBounds_toArray, List.set_cons_zero, List.set_cons_succ]
    refine wpAnyH_take (i := 5) (v := undef) rfl (by kernel_rfl) (by kernel_rfl) (by kernel_rfl) (fun _ _ _ h => h) (Or.inr ⟨by rfl, rfl⟩) hS1 ?_
    try simp only [Act.put, List.getElem_toArray, List.getElem_cons_zero, List.getElem_cons_succ, List.setIfInBounds_toArray, List.set_cons_zero, List.set_cons_succ]
    refine wpAnyH_take (i := 6) (v := undef) rfl (by kernel_rfl) (by kernel_rfl) (by kernel_rfl) (fun _ _ _ h => h) (Or.inr ⟨by rfl, rfl⟩) hS1 ?_
    try simp only [Act.put, List.getElem_toArray, List.getElem_cons_zero, List.getElem_cons_succ, List.setIfInBounds_toArray, List.set_cons_zero, List.set_cons_succ]
    refine wpAnyH_take (i := 7) (v := undef) rfl (by kernel_rfl) (by kernel_rfl) (by kernel_rfl) (fun _ _ _ h => h) (Or.inr ⟨by rfl, rfl⟩) hS1 ?_
    try simp only [Act.put, List.getElem_toArray, List.getElem_cons_zero, List.getElem_cons_succ, List.setIfInBounds_toArray, List.set_cons_zero, List.set_cons_succ]
    refine wpAnyH_take (i := 8) (v := undef) rfl (by kernel_rfl) (by kernel_rfl) (by kernel_rfl) (fun _ _ _ h => h) (Or.inr ⟨by rfl, rfl⟩) hS1 ?_
    try simp only [Act.put, List.getElem_toArray, List.getElem_cons_zero, List.getElem_cons_succ, List.setIfInBounds_toArray, List.set_cons_zero, List.set_cons_succ]
    refine wpAnyH_take (i := 9) (v := undef) rfl (by kernel_rfl) (by kernel_rfl) (by kernel_rfl) (fun _ _ _ h => h) (Or.inr ⟨by rfl, rfl⟩) hS1 ?_
    try simp only [Act.put, List.getElem_toArray, List.getElem_cons_zero, List.getElem_cons_succ, List.setIfInBounds_toArray, List.set_cons_zero, List.set_cons_succ]
    refine wpAnyH_take (i := 10) (v := undef) rfl (by kernel_rfl) (by kernel_rfl) (by kernel_rfl) (fun _ _ _ h => h) (Or.inr ⟨by rfl, rfl⟩) hS1 ?_
    try simp only [Act.put, List.getElem_toArray, List.getElem_cons_zero, List.getElem_cons_succ, List.setIfInBounds_toArray, List.set_cons_zero, List.set_cons_succ]
    refine wpAnyH_take (i := 11) (v := (.bool true)) rfl (by kernel_rfl) (by kernel_rfl) (by kernel_rfl) (fun _ _ _ h => h) (Or.inl ⟨by rfl, fun w' hS => by obtain ⟨q0, q1⟩ := hS; go_simp⟩) hS1 ?_
    try simp only [Act.put, List.getElem_toArray, List.getElem_cons_zero, List.getElem_cons_succ, List.setIfInBounds_toArray, List.set_cons_zero, List.set_cons_succ]
    refine wpAnyH_ready (rs := [12]) (by kernel_rfl) (by simp) ?_
    refine AllReadyH.cons rfl (fun K hK => ?_) AllReadyH.nil
    go_simp
    have hset : Fr (fun j => j = b4 + 1 + 1) W (W.setCell ⟨b4 + 1 + 1, 0, none⟩ (.bool true)).drew := ((Fr.refl (fun j => j = b4 + 1 + 1) _).setCell (p := ⟨b4 + 1 + 1, 0, none⟩) (.inl rfl) _).drew
    refine hK.out _ _ ⟨cell_fr hset i0 (fun e => absurd (show b4 + 1 + 1 + 1 = b4 + 1 + 1 from e) (by omega)), cell_fr hset i8 (fun e => absurd (show b4 + 1 = b4 + 1 + 1 from e) (by omega))⟩ (fun hHeld => ?_)
    refine wpAnyH_done (by kernel_rfl) ?_ _
    refine NoPanic.normal ?_
    go_wp2_with (fail)
    have hK' : (W.setCell ⟨b4 + 1 + 1, 0, none⟩ (.bool true)).drew.heap[D]? = some (.deferred (some [])) := (heap_setCell_ne _ _ _ _ hDo).trans HK.out
    refine ⟨by simp, .inl ⟨_, _, rfl, run_takeDeferred hK', ?_⟩⟩
    have hc5 : ((W.setCell ⟨b4 + 1 + 1, 0, none⟩ (.bool true)).drew.putObj D (.deferred none)).cell? ⟨b4 + 1 + 1, 0, none⟩ = some (.bool true) := by
      rw [cell?_putObj _ _ _ _ (Ne.symm hDo)]
      exact World.cell?_setCell_same' W _ _ (by rw [i4]; rfl)
    have hs3 := HF3.out.size
    refine ⟨.bool true, ?_, rfl, (((HF3.out.trans HF.out (fun k hk e => by omega)).setCell (p := ⟨b4 + 1 + 1, 0, none⟩) (.inr (show w.heap.size ≤ b4 + 1 + 1 by omega)) _).drew).putObj (.inr (by omega)) _⟩
    simp [results, Try.f46, go_sem, hc5]

end Go.Proofs.Ytolonoabipnpfaa
