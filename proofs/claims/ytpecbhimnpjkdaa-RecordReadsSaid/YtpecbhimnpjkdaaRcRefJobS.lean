/- The document's job, walked. (Printed by rcrefjob.py.) -/
import Derived.Test.YtpecbhimnpjkdaaRcRefGet0
import Derived.Test.YtpecbhimnpjkdaaRcSame
namespace Go.Proofs.Ytpecbhimnpjkdaa
open Go.RowKit Go.Sb

theorem one5 (a b c d e : Int) : ∀ v ∈ (#[Value.int .i64 a, .int .i64 b, .int .i64 c, .int .i64 d, .int .i64 e] : Array Value).toList, v.oneCell' = true := five_one a b c d e

set_option maxRecDepth 100000 in
set_option maxHeartbeats 4000000 in
theorem job_short (x0 x1 x2 x3 x4 x5 x6 x7 x8 x9 x10 : Int) (g cap : Nat) (w : World) (hcap : 11 ≤ cap) (_hm : cap ≤ maxLen)
    (c0 : w.cell? ⟨g, 0, none⟩ = some (.int .i64 x0)) (c1 : w.cell? ⟨g, 1, none⟩ = some (.int .i64 x1)) (c2 : w.cell? ⟨g, 2, none⟩ = some (.int .i64 x2)) (c3 : w.cell? ⟨g, 3, none⟩ = some (.int .i64 x3)) (c4 : w.cell? ⟨g, 4, none⟩ = some (.int .i64 x4)) (c5 : w.cell? ⟨g, 5, none⟩ = some (.int .i64 x5)) (c6 : w.cell? ⟨g, 6, none⟩ = some (.int .i64 x6)) (c7 : w.cell? ⟨g, 7, none⟩ = some (.int .i64 x7)) (c8 : w.cell? ⟨g, 8, none⟩ = some (.int .i64 x8)) (c9 : w.cell? ⟨g, 9, none⟩ = some (.int .i64 x9)) (c10 : w.cell? ⟨g, 10, none⟩ = some (.int .i64 x10)) :
    Calls Try.prog 44 #[.slice (some ⟨g, 0, none⟩) 11 cap, .bool false] w fun e w' => e = .returned (.agg (jobC [x0, x1, x2, 0, 0, x3, x4, x5, x6, x7, x8, x9, x10, 0, 0, 0] ⟨#[]⟩ (.slice none 0 0))) ∧ Fr (fun _ => False) w w' := by
  rw [show jobC [x0, x1, x2, 0, 0, x3, x4, x5, x6, x7, x8, x9, x10, 0, 0, 0] ⟨#[]⟩ (.slice none 0 0) = #[.int .i64 (x0), .int .i64 (x1), .int .i64 (x2), .int .i64 (0), .int .i64 (0), .int .i64 (x3), .int .i64 (x4), .int .i64 (x5), .int .i64 (x6), .int .i64 (x7), .int .i64 (x8), .int .i64 (x9), .int .i64 (x10), .string ⟨#[]⟩, .slice none 0 0] from by kernel_rfl]
  have hgw : g < w.heap.size := World.block_lt_of_cell? w _ c0
  have C0 := Lib.hid c0
  have C1 := Lib.hid c1
  have C2 := Lib.hid c2
  have C3 := Lib.hid c3
  have C4 := Lib.hid c4
  have C5 := Lib.hid c5
  have C6 := Lib.hid c6
  have C7 := Lib.hid c7
  have C8 := Lib.hid c8
  have C9 := Lib.hid c9
  have C10 := Lib.hid c10
  clear c0 c1 c2 c3 c4 c5 c6 c7 c8 c9 c10
  have hc3 : ¬ cap = 3 := by omega
  have hc5 : ¬ cap = 5 := by omega
  have HF1 : Hid (Fr (fun _ => False) w (w.alloc (.cells #[.int .i64 (0), .int .i64 (0), .int .i64 (0), .int .i64 (0), .int .i64 (0), .int .i64 (0), .int .i64 (0), .int .i64 (0), .int .i64 (0), .int .i64 (0), .int .i64 (0), .int .i64 (0), .int .i64 (0), .string ⟨#[]⟩, .slice none 0 0] 27))) := Lib.hid ((Fr.refl _ _).alloc _)
  have HB4 : Hid ((w.alloc (.cells #[.int .i64 (0), .int .i64 (0), .int .i64 (0), .int .i64 (0), .int .i64 (0), .int .i64 (0), .int .i64 (0), .int .i64 (0), .int .i64 (0), .int .i64 (0), .int .i64 (0), .int .i64 (0), .int .i64 (0), .string ⟨#[]⟩, .slice none 0 0] 27)).heap[w.heap.size]? = some (.cells #[.int .i64 (0), .int .i64 (0), .int .i64 (0), .int .i64 (0), .int .i64 (0), .int .i64 (0), .int .i64 (0), .int .i64 (0), .int .i64 (0), .int .i64 (0), .int .i64 (0), .int .i64 (0), .int .i64 (0), .string ⟨#[]⟩, .slice none 0 0] 27 (0, 0))) := Lib.hid (heap_alloc_eq _ _)
  go_enter Try.func44, Try.ntmps44
  go_wp2_with (fail)
  change (Code.region _ _ _).wp _ _ _ (w.alloc (.cells #[.int .i64 (0), .int .i64 (0), .int .i64 (0), .int .i64 (0), .int .i64 (0), .int .i64 (0), .int .i64 (0), .int .i64 (0), .int .i64 (0), .int .i64 (0), .int .i64 (0), .int .i64 (0), .int .i64 (0), .string ⟨#[]⟩, .slice none 0 0] 27))
  have hlt1 : w.heap.size < (w.alloc (.cells #[.int .i64 (0), .int .i64 (0), .int .i64 (0), .int .i64 (0), .int .i64 (0), .int .i64 (0), .int .i64 (0), .int .i64 (0), .int .i64 (0), .int .i64 (0), .int .i64 (0), .int .i64 (0), .int .i64 (0), .string ⟨#[]⟩, .slice none 0 0] 27)).heap.size := by simp
  generalize (w.alloc (.cells #[.int .i64 (0), .int .i64 (0), .int .i64 (0), .int .i64 (0), .int .i64 (0), .int .i64 (0), .int .i64 (0), .int .i64 (0), .int .i64 (0), .int .i64 (0), .int .i64 (0), .int .i64 (0), .int .i64 (0), .string ⟨#[]⟩, .slice none 0 0] 27)) = w1 at *
  refine wp_region_held_drew (S := fun w' => Fr (fun _ => False) w1 w') (by kernel_rfl) ((Fr.refl _ _).drew) (fun hS1 => ?_)
  refine wpAnyH_take (i := 0) (v := (.slice (some ⟨g, 0, none⟩) 11 cap)) rfl (by kernel_rfl) (by kernel_rfl) (by kernel_rfl) (fun _ _ _ h => h) (Or.inl ⟨by rfl, fun w' hS => by go_simp⟩) hS1 ?_
  try simp only [Act.put, List.getElem_toArray, List.getElem_cons_zero, List.setIfInBounds_toArray, List.set_cons_zero, List.set_cons_succ]
  refine wpAnyH_take (i := 1) (v := (.pointer (some ⟨g, 0, none⟩))) rfl (by kernel_rfl) (by kernel_rfl) (by kernel_rfl) (fun _ _ _ h => h) (Or.inl ⟨by rfl, fun w' hS => by go_simp⟩) hS1 ?_
  try simp only [Act.put, List.getElem_toArray, List.getElem_cons_zero, List.getElem_cons_succ, List.setIfInBounds_toArray, List.set_cons_zero, List.set_cons_succ]
  refine wpAnyH_take (i := 2) (v := (.int .i64 (x0))) rfl (by kernel_rfl) (by kernel_rfl) (by kernel_rfl) (fun _ _ _ h => h) (Or.inl ⟨by rfl, fun w' hS => by have cc := cell_fr' hS (cell_fr' HF1.out C0.out); go_simp⟩) hS1 ?_
  try simp only [Act.put, List.getElem_toArray, List.getElem_cons_zero, List.getElem_cons_succ, List.setIfInBounds_toArray, List.set_cons_zero, List.set_cons_succ]
  refine wpAnyH_take (i := 3) (v := (.slice (some ⟨g, 0, none⟩) 11 cap)) rfl (by kernel_rfl) (by kernel_rfl) (by kernel_rfl) (fun _ _ _ h => h) (Or.inl ⟨by rfl, fun w' hS => by go_simp⟩) hS1 ?_
  try simp only [Act.put, List.getElem_toArray, List.getElem_cons_zero, List.getElem_cons_succ, List.setIfInBounds_toArray, List.set_cons_zero, List.set_cons_succ]
  refine wpAnyH_take (i := 4) (v := (.pointer (some ⟨g, 1, none⟩))) rfl (by kernel_rfl) (by kernel_rfl) (by kernel_rfl) (fun _ _ _ h => h) (Or.inl ⟨by rfl, fun w' hS => by go_simp⟩) hS1 ?_
  try simp only [Act.put, List.getElem_toArray, List.getElem_cons_zero, List.getElem_cons_succ, List.setIfInBounds_toArray, List.set_cons_zero, List.set_cons_succ]
  refine wpAnyH_take (i := 5) (v := (.int .i64 (x1))) rfl (by kernel_rfl) (by kernel_rfl) (by kernel_rfl) (fun _ _ _ h => h) (Or.inl ⟨by rfl, fun w' hS => by have cc := cell_fr' hS (cell_fr' HF1.out C1.out); go_simp⟩) hS1 ?_
  try simp only [Act.put, List.getElem_toArray, List.getElem_cons_zero, List.getElem_cons_succ, List.setIfInBounds_toArray, List.set_cons_zero, List.set_cons_succ]
  refine wpAnyH_take (i := 6) (v := (.slice (some ⟨g, 0, none⟩) 11 cap)) rfl (by kernel_rfl) (by kernel_rfl) (by kernel_rfl) (fun _ _ _ h => h) (Or.inl ⟨by rfl, fun w' hS => by go_simp⟩) hS1 ?_
  try simp only [Act.put, List.getElem_toArray, List.getElem_cons_zero, List.getElem_cons_succ, List.setIfInBounds_toArray, List.set_cons_zero, List.set_cons_succ]
  refine wpAnyH_take (i := 7) (v := (.pointer (some ⟨g, 2, none⟩))) rfl (by kernel_rfl) (by kernel_rfl) (by kernel_rfl) (fun _ _ _ h => h) (Or.inl ⟨by rfl, fun w' hS => by go_simp⟩) hS1 ?_
  try simp only [Act.put, List.getElem_toArray, List.getElem_cons_zero, List.getElem_cons_succ, List.setIfInBounds_toArray, List.set_cons_zero, List.set_cons_succ]
  refine wpAnyH_take (i := 8) (v := (.int .i64 (x2))) rfl (by kernel_rfl) (by kernel_rfl) (by kernel_rfl) (fun _ _ _ h => h) (Or.inl ⟨by rfl, fun w' hS => by have cc := cell_fr' hS (cell_fr' HF1.out C2.out); go_simp⟩) hS1 ?_
  try simp only [Act.put, List.getElem_toArray, List.getElem_cons_zero, List.getElem_cons_succ, List.setIfInBounds_toArray, List.set_cons_zero, List.set_cons_succ]
  refine wpAnyH_take (i := 9) (v := (.agg #[.int .i64 (x0), .int .i64 (x1), .int .i64 (x2), .int .i64 (0), .int .i64 (0), .int .i64 (0), .int .i64 (0), .int .i64 (0), .int .i64 (0), .int .i64 (0), .int .i64 (0), .int .i64 (0), .int .i64 (0), .string ⟨#[]⟩, .slice none 0 0])) rfl (by kernel_rfl) (by kernel_rfl) (by kernel_rfl) (fun _ _ _ h => h) (Or.inl ⟨by rfl, fun w' hS => by go_simp⟩) hS1 ?_
  try simp only [Act.put, List.getElem_toArray, List.getElem_cons_zero, List.getElem_cons_succ, List.setIfInBounds_toArray, List.set_cons_zero, List.set_cons_succ]
  refine wpAnyH_ready (rs := [10]) (by kernel_rfl) (by simp) ?_
  refine AllReadyH.cons rfl (fun K hK => ?_) AllReadyH.nil
  rw [if_pos (by rfl)]
  go_simp
  have HB5 : Hid ((w1.drew.alloc (.cells #[.int .i64 (0), .int .i64 (0), .int .i64 (0), .int .i64 (0), .int .i64 (0), .int .i64 (0), .int .i64 (0), .int .i64 (0), .int .i64 (0), .int .i64 (0), .int .i64 (0), .int .i64 (0), .int .i64 (0), .string ⟨#[]⟩, .slice none 0 0] 27)).heap[w1.heap.size]? = some (.cells #[.int .i64 (0), .int .i64 (0), .int .i64 (0), .int .i64 (0), .int .i64 (0), .int .i64 (0), .int .i64 (0), .int .i64 (0), .int .i64 (0), .int .i64 (0), .int .i64 (0), .int .i64 (0), .int .i64 (0), .string ⟨#[]⟩, .slice none 0 0] 27 (0, 0))) := Lib.hid (heap_alloc_eq w1.drew _)
  refine hK.out _ _ (hS1.alloc _) (fun hS2 => ?_)
  clear hK K
  try simp only [Act.put, List.getElem_toArray, List.getElem_cons_zero, List.getElem_cons_succ, List.setIfInBounds_toArray, List.set_cons_zero, List.set_cons_succ]
  refine wpAnyH_ready (rs := [11]) (by kernel_rfl) (by simp) ?_
  refine AllReadyH.cons rfl (fun K hK => ?_) AllReadyH.nil
  rw [if_pos (by rfl)]
  refine wp_store_off 27 _ _ rfl w1.heap.size 0 27 _ #[.int .i64 (x0), .int .i64 (x1), .int .i64 (x2), .int .i64 (0), .int .i64 (0), .int .i64 (0), .int .i64 (0), .int .i64 (0), .int .i64 (0), .int .i64 (0), .int .i64 (0), .int .i64 (0), .int .i64 (0), .string ⟨#[]⟩, .slice none 0 0] #[.int .i64 (x0), .int .i64 (x1), .int .i64 (x2), .int .i64 (0), .int .i64 (0), .int .i64 (0), .int .i64 (0), .int .i64 (0), .int .i64 (0), .int .i64 (0), .int .i64 (0), .int .i64 (0), .int .i64 (0), .string ⟨#[]⟩, .slice none 0 0] rfl rfl HB5.out (by simp) info27s (one15 _ _ _ _ _ _ _ _ _ _ _ _ _ _ _ _ _) rfl ?_
  intro w2 hw2 hf2
  have hS3 : Fr (fun _ => False) w1 w2 := hS2.trans hf2 (fun x hx h => by omega)
  refine hK.out _ _ hS3 (fun hS4 => ?_)
  clear hK K
  try simp only [Act.put, List.getElem_toArray, List.getElem_cons_zero, List.getElem_cons_succ]
  refine wpAnyH_done (by kernel_rfl) ?_ _
  have HF2 := Lib.hid (HF1.out.trans hS4 (fun _ _ h => h))
  have HB42 := Lib.hid (hS4.get HB4.out id)
  have HW2 := Lib.hid hw2
  have hlt2 : w1.heap.size < w2.heap.size := lt_of_heap hw2
  have c3 := cell_fr' HF2.out C3.out
  have c4 := cell_fr' HF2.out C4.out
  have c5 := cell_fr' HF2.out C5.out
  have c6 := cell_fr' HF2.out C6.out
  have c7 := cell_fr' HF2.out C7.out
  have c8 := cell_fr' HF2.out C8.out
  have c9 := cell_fr' HF2.out C9.out
  have c10 := cell_fr' HF2.out C10.out
  have s3 : w2.cell? ⟨w1.heap.size, 3, none⟩ = some (.int .i64 0) := cell_is hw2 3 rfl
  have z3 := frozen_of hw2 3
  have s4 : w2.cell? ⟨w1.heap.size, 4, none⟩ = some (.int .i64 0) := cell_is hw2 4 rfl
  have z4 := frozen_of hw2 4
  have s5 : w2.cell? ⟨w1.heap.size, 5, none⟩ = some (.int .i64 0) := cell_is hw2 5 rfl
  have z5 := frozen_of hw2 5
  have s6 : w2.cell? ⟨w1.heap.size, 6, none⟩ = some (.int .i64 0) := cell_is hw2 6 rfl
  have z6 := frozen_of hw2 6
  have s7 : w2.cell? ⟨w1.heap.size, 7, none⟩ = some (.int .i64 0) := cell_is hw2 7 rfl
  have z7 := frozen_of hw2 7
  have hgne : g ≠ w1.heap.size := by have := HF1.out.size; omega
  have hbne : w.heap.size ≠ w1.heap.size := by omega
  have hble : w.heap.size ≤ w1.heap.size := by omega
  clear hS1 hS2 hS3 hS4 hf2 hw2
  generalize hq5 : w1.heap.size = b5 at *
  go_wp2_with (fail)
  have E5 : (w2.setCell ⟨b5, 5, none⟩ (.int .i64 x3)).heap[b5]? = some (.cells #[.int .i64 (x0), .int .i64 (x1), .int .i64 (x2), .int .i64 (0), .int .i64 (0), .int .i64 (x3), .int .i64 (0), .int .i64 (0), .int .i64 (0), .int .i64 (0), .int .i64 (0), .int .i64 (0), .int .i64 (0), .string ⟨#[]⟩, .slice none 0 0] 27 (0, 0)) := heap_setCell_eq 5 _ HW2.out
  have E6 : ((w2.setCell ⟨b5, 5, none⟩ (.int .i64 x3)).setCell ⟨b5, 6, none⟩ (.int .i64 x4)).heap[b5]? = some (.cells #[.int .i64 (x0), .int .i64 (x1), .int .i64 (x2), .int .i64 (0), .int .i64 (0), .int .i64 (x3), .int .i64 (x4), .int .i64 (0), .int .i64 (0), .int .i64 (0), .int .i64 (0), .int .i64 (0), .int .i64 (0), .string ⟨#[]⟩, .slice none 0 0] 27 (0, 0)) := heap_setCell_eq 6 _ E5
  have E7 : (((w2.setCell ⟨b5, 5, none⟩ (.int .i64 x3)).setCell ⟨b5, 6, none⟩ (.int .i64 x4)).setCell ⟨b5, 7, none⟩ (.int .i64 x5)).heap[b5]? = some (.cells #[.int .i64 (x0), .int .i64 (x1), .int .i64 (x2), .int .i64 (0), .int .i64 (0), .int .i64 (x3), .int .i64 (x4), .int .i64 (x5), .int .i64 (0), .int .i64 (0), .int .i64 (0), .int .i64 (0), .int .i64 (0), .string ⟨#[]⟩, .slice none 0 0] 27 (0, 0)) := heap_setCell_eq 7 _ E6
  have hfs : Fr (fun x => x = b5) w2 (((w2.setCell ⟨b5, 5, none⟩ (.int .i64 x3)).setCell ⟨b5, 6, none⟩ (.int .i64 x4)).setCell ⟨b5, 7, none⟩ (.int .i64 x5)) := ((((Fr.refl (fun x => x = b5) w2).setCell (p := ⟨b5, 5, none⟩) (.inl rfl) (.int .i64 x3)).setCell (p := ⟨b5, 6, none⟩) (.inl rfl) (.int .i64 x4)).setCell (p := ⟨b5, 7, none⟩) (.inl rfl) (.int .i64 x5))
  have HE := Lib.hid E7
  have HFS := Lib.hid hfs
  clear hfs E5 E6 E7
  generalize (((w2.setCell ⟨b5, 5, none⟩ (.int .i64 x3)).setCell ⟨b5, 6, none⟩ (.int .i64 x4)).setCell ⟨b5, 7, none⟩ (.int .i64 x5)) = w3 at *
  have k6 : w3.cell? ⟨g, 6, none⟩ = some (.int .i64 x6) := by rw [World.cell?_of_block (w := w2) (HFS.out.block g (World.block_lt_of_cell? w2 _ c6) hgne)]; exact c6
  have k7 : w3.cell? ⟨g, 7, none⟩ = some (.int .i64 x7) := by rw [World.cell?_of_block (w := w2) (HFS.out.block g (World.block_lt_of_cell? w2 _ c7) hgne)]; exact c7
  have k8 : w3.cell? ⟨g, 8, none⟩ = some (.int .i64 x8) := by rw [World.cell?_of_block (w := w2) (HFS.out.block g (World.block_lt_of_cell? w2 _ c8) hgne)]; exact c8
  have k9 : w3.cell? ⟨g, 9, none⟩ = some (.int .i64 x9) := by rw [World.cell?_of_block (w := w2) (HFS.out.block g (World.block_lt_of_cell? w2 _ c9) hgne)]; exact c9
  have k10 : w3.cell? ⟨g, 10, none⟩ = some (.int .i64 x10) := by rw [World.cell?_of_block (w := w2) (HFS.out.block g (World.block_lt_of_cell? w2 _ c10) hgne)]; exact c10
  have HB43 := Lib.hid (HFS.out.get HB42.out hbne)
  clear c3 c4 c5 c6 c7 c8 c9 c10 s3 z3 s4 z4 s5 z5 s6 z6 s7 z7
  refine wp_region_held_drew (S := fun w' => Fr (fun x => x = b5) w3 w') (by kernel_rfl) ((Fr.refl _ _).drew) (fun hS1 => ?_)
  have hld : ∀ (j : Nat) (v : Value) (w' : World), Fr (fun x => x = b5) w3 w' → w3.cell? ⟨g, j, none⟩ = some v → w'.cell? ⟨g, j, none⟩ = some v := fun j v w' h hc => by rw [World.cell?_of_block (w := w3) (h.block g (World.block_lt_of_cell? w3 _ hc) hgne)]; exact hc
  refine wpAnyH_take (i := 0) (v := (.slice (some ⟨g, 3, none⟩) 8 (cap - 3))) rfl (by kernel_rfl) (by kernel_rfl) (by kernel_rfl) (fun _ _ _ h => h) (Or.inl ⟨by rfl, fun w' hS => by go_simp⟩) hS1 ?_
  try simp only [Act.put, List.getElem_toArray, List.getElem_cons_zero, List.setIfInBounds_toArray, List.set_cons_zero, List.set_cons_succ]
  refine wpAnyH_take (i := 1) (v := (.pointer (some ⟨g, 6, none⟩))) rfl (by kernel_rfl) (by kernel_rfl) (by kernel_rfl) (fun _ _ _ h => h) (Or.inl ⟨by rfl, fun w' hS => by go_simp⟩) hS1 ?_
  try simp only [Act.put, List.getElem_toArray, List.getElem_cons_zero, List.getElem_cons_succ, List.setIfInBounds_toArray, List.set_cons_zero, List.set_cons_succ]
  refine wpAnyH_take (i := 2) (v := (.int .i64 (x6))) rfl (by kernel_rfl) (by kernel_rfl) (by kernel_rfl) (fun _ _ _ h => h) (Or.inl ⟨by rfl, fun w' hS => by have cc := hld _ _ w' hS k6; go_simp⟩) hS1 ?_
  try simp only [Act.put, List.getElem_toArray, List.getElem_cons_zero, List.getElem_cons_succ, List.setIfInBounds_toArray, List.set_cons_zero, List.set_cons_succ]
  refine wpAnyH_take (i := 3) (v := (.slice (some ⟨g, 3, none⟩) 8 (cap - 3))) rfl (by kernel_rfl) (by kernel_rfl) (by kernel_rfl) (fun _ _ _ h => h) (Or.inl ⟨by rfl, fun w' hS => by go_simp⟩) hS1 ?_
  try simp only [Act.put, List.getElem_toArray, List.getElem_cons_zero, List.getElem_cons_succ, List.setIfInBounds_toArray, List.set_cons_zero, List.set_cons_succ]
  refine wpAnyH_take (i := 4) (v := (.pointer (some ⟨g, 7, none⟩))) rfl (by kernel_rfl) (by kernel_rfl) (by kernel_rfl) (fun _ _ _ h => h) (Or.inl ⟨by rfl, fun w' hS => by go_simp⟩) hS1 ?_
  try simp only [Act.put, List.getElem_toArray, List.getElem_cons_zero, List.getElem_cons_succ, List.setIfInBounds_toArray, List.set_cons_zero, List.set_cons_succ]
  refine wpAnyH_take (i := 5) (v := (.int .i64 (x7))) rfl (by kernel_rfl) (by kernel_rfl) (by kernel_rfl) (fun _ _ _ h => h) (Or.inl ⟨by rfl, fun w' hS => by have cc := hld _ _ w' hS k7; go_simp⟩) hS1 ?_
  try simp only [Act.put, List.getElem_toArray, List.getElem_cons_zero, List.getElem_cons_succ, List.setIfInBounds_toArray, List.set_cons_zero, List.set_cons_succ]
  refine wpAnyH_take (i := 6) (v := (.slice (some ⟨g, 3, none⟩) 8 (cap - 3))) rfl (by kernel_rfl) (by kernel_rfl) (by kernel_rfl) (fun _ _ _ h => h) (Or.inl ⟨by rfl, fun w' hS => by go_simp⟩) hS1 ?_
  try simp only [Act.put, List.getElem_toArray, List.getElem_cons_zero, List.getElem_cons_succ, List.setIfInBounds_toArray, List.set_cons_zero, List.set_cons_succ]
  refine wpAnyH_take (i := 7) (v := (.pointer (some ⟨g, 8, none⟩))) rfl (by kernel_rfl) (by kernel_rfl) (by kernel_rfl) (fun _ _ _ h => h) (Or.inl ⟨by rfl, fun w' hS => by go_simp⟩) hS1 ?_
  try simp only [Act.put, List.getElem_toArray, List.getElem_cons_zero, List.getElem_cons_succ, List.setIfInBounds_toArray, List.set_cons_zero, List.set_cons_succ]
  refine wpAnyH_take (i := 8) (v := (.int .i64 (x8))) rfl (by kernel_rfl) (by kernel_rfl) (by kernel_rfl) (fun _ _ _ h => h) (Or.inl ⟨by rfl, fun w' hS => by have cc := hld _ _ w' hS k8; go_simp⟩) hS1 ?_
  try simp only [Act.put, List.getElem_toArray, List.getElem_cons_zero, List.getElem_cons_succ, List.setIfInBounds_toArray, List.set_cons_zero, List.set_cons_succ]
  refine wpAnyH_take (i := 9) (v := (.slice (some ⟨g, 3, none⟩) 8 (cap - 3))) rfl (by kernel_rfl) (by kernel_rfl) (by kernel_rfl) (fun _ _ _ h => h) (Or.inl ⟨by rfl, fun w' hS => by go_simp⟩) hS1 ?_
  try simp only [Act.put, List.getElem_toArray, List.getElem_cons_zero, List.getElem_cons_succ, List.setIfInBounds_toArray, List.set_cons_zero, List.set_cons_succ]
  refine wpAnyH_take (i := 10) (v := (.pointer (some ⟨g, 9, none⟩))) rfl (by kernel_rfl) (by kernel_rfl) (by kernel_rfl) (fun _ _ _ h => h) (Or.inl ⟨by rfl, fun w' hS => by go_simp⟩) hS1 ?_
  try simp only [Act.put, List.getElem_toArray, List.getElem_cons_zero, List.getElem_cons_succ, List.setIfInBounds_toArray, List.set_cons_zero, List.set_cons_succ]
  refine wpAnyH_take (i := 11) (v := (.int .i64 (x9))) rfl (by kernel_rfl) (by kernel_rfl) (by kernel_rfl) (fun _ _ _ h => h) (Or.inl ⟨by rfl, fun w' hS => by have cc := hld _ _ w' hS k9; go_simp⟩) hS1 ?_
  try simp only [Act.put, List.getElem_toArray, List.getElem_cons_zero, List.getElem_cons_succ, List.setIfInBounds_toArray, List.set_cons_zero, List.set_cons_succ]
  refine wpAnyH_take (i := 12) (v := (.slice (some ⟨g, 3, none⟩) 8 (cap - 3))) rfl (by kernel_rfl) (by kernel_rfl) (by kernel_rfl) (fun _ _ _ h => h) (Or.inl ⟨by rfl, fun w' hS => by go_simp⟩) hS1 ?_
  try simp only [Act.put, List.getElem_toArray, List.getElem_cons_zero, List.getElem_cons_succ, List.setIfInBounds_toArray, List.set_cons_zero, List.set_cons_succ]
  refine wpAnyH_take (i := 13) (v := (.pointer (some ⟨g, 10, none⟩))) rfl (by kernel_rfl) (by kernel_rfl) (by kernel_rfl) (fun _ _ _ h => h) (Or.inl ⟨by rfl, fun w' hS => by go_simp⟩) hS1 ?_
  try simp only [Act.put, List.getElem_toArray, List.getElem_cons_zero, List.getElem_cons_succ, List.setIfInBounds_toArray, List.set_cons_zero, List.set_cons_succ]
  refine wpAnyH_take (i := 14) (v := (.int .i64 (x10))) rfl (by kernel_rfl) (by kernel_rfl) (by kernel_rfl) (fun _ _ _ h => h) (Or.inl ⟨by rfl, fun w' hS => by have cc := hld _ _ w' hS k10; go_simp⟩) hS1 ?_
  try simp only [Act.put, List.getElem_toArray, List.getElem_cons_zero, List.getElem_cons_succ, List.setIfInBounds_toArray, List.set_cons_zero, List.set_cons_succ]
  refine wpAnyH_take (i := 15) (v := (.agg #[.int .i64 (x6), .int .i64 (x7), .int .i64 (x8), .int .i64 (x9), .int .i64 (x10)])) rfl (by kernel_rfl) (by kernel_rfl) (by kernel_rfl) (fun _ _ _ h => h) (Or.inl ⟨by rfl, fun w' hS => by go_simp⟩) hS1 ?_
  try simp only [Act.put, List.getElem_toArray, List.getElem_cons_zero, List.getElem_cons_succ, List.setIfInBounds_toArray, List.set_cons_zero, List.set_cons_succ]
  refine wpAnyH_take (i := 16) (v := (.pointer (some ⟨b5, 8, none⟩))) rfl (by kernel_rfl) (by kernel_rfl) (by kernel_rfl) (fun _ _ _ h => h) (Or.inl ⟨by rfl, fun w' hS => by go_simp⟩) hS1 ?_
  try simp only [Act.put, List.getElem_toArray, List.getElem_cons_zero, List.getElem_cons_succ, List.setIfInBounds_toArray, List.set_cons_zero, List.set_cons_succ]
  refine wpAnyH_ready (rs := [17]) (by kernel_rfl) (by simp) ?_
  refine AllReadyH.cons rfl (fun K hK => ?_) AllReadyH.nil
  rw [if_pos (by rfl)]
  refine wp_store_off 25 _ _ rfl b5 8 27 _ #[.int .i64 (x6), .int .i64 (x7), .int .i64 (x8), .int .i64 (x9), .int .i64 (x10)] #[.int .i64 (x0), .int .i64 (x1), .int .i64 (x2), .int .i64 (0), .int .i64 (0), .int .i64 (x3), .int .i64 (x4), .int .i64 (x5), .int .i64 (x6), .int .i64 (x7), .int .i64 (x8), .int .i64 (x9), .int .i64 (x10), .string ⟨#[]⟩, .slice none 0 0] rfl rfl HE.out (by simp) info25s (one5 _ _ _ _ _) rfl ?_
  intro w4 hw4 hf4
  have HW4 := Lib.hid hw4
  refine hK.out _ _ (hS1.trans hf4 (fun _ _ h => h)) (fun hS2 => ?_)
  have HS2 := Lib.hid hS2
  clear hK K hS2 hS1 hf4 hw4 hld
  try simp only [Act.put, List.getElem_toArray, List.getElem_cons_zero, List.getElem_cons_succ]
  refine wpAnyH_done (by kernel_rfl) ?_ _
  have hb54 : b5 < w4.heap.size := lt_of_heap HW4.out
  go_wp2_with (first
    | ((refine load_guard _ _ rfl ?_); refine wpList_load_row rfl 27 _ rfl b5 rfl 27 _ (0, 0) _ HW4.out Try.underlying27 rfl info27s ?_)
    | ((refine store_guard _ _ _ _ rfl ?_); refine wpList_store_agg _ rfl _ _ 27 rfl w.heap.size 27 _ #[.int .i64 (x0), .int .i64 (x1), .int .i64 (x2), .int .i64 (0), .int .i64 (0), .int .i64 (x3), .int .i64 (x4), .int .i64 (x5), .int .i64 (x6), .int .i64 (x7), .int .i64 (x8), .int .i64 (x9), .int .i64 (x10), .string ⟨#[]⟩, .slice none 0 0] rfl rfl info27s (HS2.out.get HB43.out hbne) rfl (one15 _ _ _ _ _ _ _ _ _ _ _ _ _ _ _ _ _) ?_; intro w7 hw7 hf7))
  have hfin : Fr (fun _ => False) w w7 := (HF2.out.trans (HFS.out.trans HS2.out (fun _ _ h => h)) (fun x hx h => by omega)).trans hf7 (fun x hx h => by omega)
  refine bodyPost_ret (v := .agg #[.int .i64 (x0), .int .i64 (x1), .int .i64 (x2), .int .i64 (0), .int .i64 (0), .int .i64 (x3), .int .i64 (x4), .int .i64 (x5), .int .i64 (x6), .int .i64 (x7), .int .i64 (x8), .int .i64 (x9), .int .i64 (x10), .string ⟨#[]⟩, .slice none 0 0]) (results_cell_row rfl _ _ w.heap.size 27 _ (0, 0) _ rfl hw7 Try.underlying27 rfl info27s) rfl ⟨rfl, hfin⟩

end Go.Proofs.Ytpecbhimnpjkdaa
