/- Which numbers a kind may have; which names may be. -/
import Derived.Test.YtpecbhimnpjkdaaRcOnly
import Derived.Test.YtpecbhimnpjkdaaRcValid
namespace Go.Proofs.Ytpecbhimnpjkdaa
open Go.RowKit Go.Sb

def mayB (ns : List Int) (k : Int) : Bool :=
  if k = 1 then inB3 (at0 ns 13) 1 1099511627776 && inB3 (at0 ns 14) 1 1099511627777
  else if k = 2 then jobB ns && (inB3 (at0 ns 3) 1 4294967295 && inB3 (at0 ns 4) 0 1099511627776)
  else if k = 3 then jobB ns
  else inB3 (at0 ns 15) 1 1099511627776

set_option maxRecDepth 100000 in
set_option maxHeartbeats 1000000 in
theorem mayN_1 (ns : List Int) (w : World) (hl : ns.length = 16) : Calls Try.prog 33 #[.agg (ns.map iv).toArray, .int .i64 1] w fun e w' => e = .returned (.bool (mayB ns 1)) ∧ Fr (fun _ => False) w w' := by
  have hg := heap_alloc_eq w (boxN ns)
  have c13 : (w.alloc (boxN ns)).cell? ⟨w.heap.size, 13, none⟩ = some (.int .i64 (at0 ns 13)) := boxN_cell hg (by omega)
  have c14 : (w.alloc (boxN ns)).cell? ⟨w.heap.size, 14, none⟩ = some (.int .i64 (at0 ns 14)) := boxN_cell hg (by omega)
  have HF := Lib.hid ((Fr.refl (fun _ => False) w).alloc (boxN ns))
  have hsz : (ns.map iv).toArray.size = 16 := by simp [hl]
  unfold boxN at *
  clear hg
  go_enter Try.func33, Try.ntmps33
  go_wp2_with (fail)
  refine (within_any (at0 ns 13) 1 1099511627776 _).mono ?_
  rintro e w1 ⟨rfl, rfl⟩
  cases h1 : inB3 (at0 ns 13) 1 1099511627776
  · have he : mayB ns 1 = false := by unfold mayB; rw [h1]; rfl
    go_wp2_with (fail)
    go_ret
    exact ⟨by rw [he]; rfl, HF.out⟩
  · go_wp2_with (fail)
    refine (within_any (at0 ns 14) 1 1099511627777 _).mono ?_
    rintro e w1 ⟨rfl, rfl⟩
    have he : mayB ns 1 = inB3 (at0 ns 14) 1 1099511627777 := by unfold mayB; rw [h1]; rfl
    go_wp2_with (fail)
    go_ret
    exact ⟨by rw [he]; rfl, HF.out⟩

set_option maxRecDepth 100000 in
set_option maxHeartbeats 1000000 in
theorem mayN_2 (ns : List Int) (w : World) (hl : ns.length = 16) : Calls Try.prog 33 #[.agg (ns.map iv).toArray, .int .i64 2] w fun e w' => e = .returned (.bool (mayB ns 2)) ∧ Fr (fun _ => False) w w' := by
  have HJ := Lib.hid (job_any ns (w.alloc (boxN ns)) hl)
  unfold JobPost at HJ
  have hg := heap_alloc_eq w (boxN ns)
  have HF := Lib.hid ((Fr.refl (fun _ => False) w).alloc (boxN ns))
  have HG := Lib.hid hg
  have c3 : (w.alloc (boxN ns)).cell? ⟨w.heap.size, 3, none⟩ = some (.int .i64 (at0 ns 3)) := boxN_cell hg (by omega)
  have c4 : (w.alloc (boxN ns)).cell? ⟨w.heap.size, 4, none⟩ = some (.int .i64 (at0 ns 4)) := boxN_cell hg (by omega)
  have hi := info54o hl
  have hsz : (ns.map iv).toArray.size = 16 := by simp [hl]
  unfold boxN at *
  clear hg hl
  go_enter Try.func33, Try.ntmps33
  go_wp2_with ((refine load_guard _ _ rfl ?_); refine wpList_load_row rfl 54 _ rfl w.heap.size rfl 54 _ (0, 0) _ HG.out Try.underlying54 rfl hi ?_)
  refine HJ.out.mono ?_
  rintro e w1 ⟨rfl, hf1⟩
  have HF1 := Lib.hid (HF.out.trans hf1 (fun _ _ h => h))
  have d3 := cell_fr' hf1 c3
  have d4 := cell_fr' hf1 c4
  clear hf1 c3 c4
  cases h1 : jobB ns
  · have he : mayB ns 2 = false := by unfold mayB; rw [h1]; rfl
    go_wp2_with (fail)
    go_ret
    exact ⟨by rw [he]; rfl, HF1.out⟩
  · go_wp2_with (fail)
    refine (within_any (at0 ns 3) 1 4294967295 _).mono ?_
    rintro e w1 ⟨rfl, rfl⟩
    cases h2 : inB3 (at0 ns 3) 1 4294967295
    · have he : mayB ns 2 = false := by unfold mayB; rw [h1, h2]; rfl
      go_wp2_with (fail)
      go_ret
      exact ⟨by rw [he]; rfl, HF1.out⟩
    · go_wp2_with (fail)
      refine (within_any (at0 ns 4) 0 1099511627776 _).mono ?_
      rintro e w1 ⟨rfl, rfl⟩
      have he : mayB ns 2 = inB3 (at0 ns 4) 0 1099511627776 := by unfold mayB; rw [h1, h2]; rfl
      go_wp2_with (fail)
      go_ret
      exact ⟨by rw [he]; rfl, HF1.out⟩

set_option maxRecDepth 100000 in
set_option maxHeartbeats 1000000 in
theorem mayN_3 (ns : List Int) (w : World) (hl : ns.length = 16) : Calls Try.prog 33 #[.agg (ns.map iv).toArray, .int .i64 3] w fun e w' => e = .returned (.bool (mayB ns 3)) ∧ Fr (fun _ => False) w w' := by
  have HJ := Lib.hid (job_any ns (w.alloc (boxN ns)) hl)
  unfold JobPost at HJ
  have hg := heap_alloc_eq w (boxN ns)
  have HF := Lib.hid ((Fr.refl (fun _ => False) w).alloc (boxN ns))
  have HG := Lib.hid hg
  have c3 : (w.alloc (boxN ns)).cell? ⟨w.heap.size, 3, none⟩ = some (.int .i64 (at0 ns 3)) := boxN_cell hg (by omega)
  have c4 : (w.alloc (boxN ns)).cell? ⟨w.heap.size, 4, none⟩ = some (.int .i64 (at0 ns 4)) := boxN_cell hg (by omega)
  have hi := info54o hl
  have hsz : (ns.map iv).toArray.size = 16 := by simp [hl]
  unfold boxN at *
  clear hg hl
  go_enter Try.func33, Try.ntmps33
  go_wp2_with ((refine load_guard _ _ rfl ?_); refine wpList_load_row rfl 54 _ rfl w.heap.size rfl 54 _ (0, 0) _ HG.out Try.underlying54 rfl hi ?_)
  refine HJ.out.mono ?_
  rintro e w1 ⟨rfl, hf1⟩
  have he : mayB ns 3 = jobB ns := rfl
  go_wp2_with (fail)
  go_ret
  exact ⟨by rw [he]; rfl, HF.out.trans hf1 (fun _ _ h => h)⟩

set_option maxRecDepth 100000 in
set_option maxHeartbeats 1000000 in
theorem mayN_4 (ns : List Int) (w : World) (hl : ns.length = 16) : Calls Try.prog 33 #[.agg (ns.map iv).toArray, .int .i64 4] w fun e w' => e = .returned (.bool (mayB ns 4)) ∧ Fr (fun _ => False) w w' := by
  have hg := heap_alloc_eq w (boxN ns)
  have c15 : (w.alloc (boxN ns)).cell? ⟨w.heap.size, 15, none⟩ = some (.int .i64 (at0 ns 15)) := boxN_cell hg (by omega)
  have HF := Lib.hid ((Fr.refl (fun _ => False) w).alloc (boxN ns))
  have hsz : (ns.map iv).toArray.size = 16 := by simp [hl]
  unfold boxN at *
  clear hg
  go_enter Try.func33, Try.ntmps33
  go_wp2_with (fail)
  refine (within_any (at0 ns 15) 1 1099511627776 _).mono ?_
  rintro e w1 ⟨rfl, rfl⟩
  have he : mayB ns 4 = inB3 (at0 ns 15) 1 1099511627776 := rfl
  go_wp2_with (fail)
  go_ret
  exact ⟨by rw [he]; rfl, HF.out⟩

theorem mayN_any (ns : List Int) (k : Int) (w : World) (hl : ns.length = 16) (hk : Kind k) : Calls Try.prog 33 #[.agg (ns.map iv).toArray, .int .i64 k] w fun e w' => e = .returned (.bool (mayB ns k)) ∧ Fr (fun _ => False) w w' := by
  rcases hk with rfl | rfl | rfl | rfl
  · exact mayN_1 ns w hl
  · exact mayN_2 ns w hl
  · exact mayN_3 ns w hl
  · exact mayN_4 ns w hl

end Go.Proofs.Ytpecbhimnpjkdaa
