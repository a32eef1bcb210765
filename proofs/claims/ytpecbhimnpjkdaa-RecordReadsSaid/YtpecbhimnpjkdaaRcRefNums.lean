/- The document's Numbers, walked. -/
import Derived.Test.YtpecbhimnpjkdaaRcSame
namespace Go.Proofs.Ytpecbhimnpjkdaa
open Go.RowKit Go.Sb

def numsV (ns : List Int) (l : List Nat) : List Value := l.map fun i => .int .i64 (at0 ns i)
def NumsPost (k : Int) (ns : List Int) (w : World) (e : Ending) (w' : World) : Prop :=
  ∃ v, e = .returned v ∧ Own 3 1 (fun x => w.heap.size ≤ x) w' v (ofList k).length (numsV ns (ofList k)) ∧ Fr (fun _ => False) w w'

theorem info3 : (Try.prog.info? 3).map (fun i => (i.zero, i.size, i.bytes)) = some (some (.int .i64 0), 1, 8) := by kernel_rfl

theorem own_lit (E : TypeId) (F : Nat → Prop) (w : World) (xs : List Value) (n : Nat) (hn : xs.length = n) (hF : F w.heap.size) (hm : n ≤ maxLen) : Own E 1 F (w.alloc (.cells xs.toArray E)) (.slice (some ⟨w.heap.size, 0, none⟩) n n) n xs := by
  subst hn
  exact ⟨by simp, .inr ⟨w.heap.size, _, _, rfl, hF, heap_alloc_eq _ _, Nat.le_refl _, hm, by simp, by simp⟩⟩

theorem src_row {w : World} {g n : Nat} {T : TypeId} {xs : List Value} (hg : w.heap[g]? = some (.cells xs.toArray T (0, 0))) (hn : xs.length = n) (h1 : ∀ u ∈ xs, u.oneCell' = true) : Src w (.slice (some ⟨g, 0, none⟩) n n) n 1 xs := by
  refine ⟨by omega, h1, .inr ⟨_, n, rfl, fun j u hu => ?_⟩⟩
  rw [Addr.add_mid, Nat.zero_add]
  exact cell_is hg j (by simpa using hu)

theorem five_one (a b c d e : Int) : ∀ u ∈ [Value.int .i64 a, .int .i64 b, .int .i64 c, .int .i64 d, .int .i64 e], u.oneCell' = true := by
  intro u hu
  simp only [List.mem_cons, List.not_mem_nil, or_false] at hu
  rcases hu with h | h | h | h | h <;> subst h <;> rfl

set_option maxRecDepth 100000 in
set_option maxHeartbeats 2000000 in
theorem refnums_1 (ns : List Int) (tube : ByteArray) (bp : Option Addr) (bn bc : Nat) (w : World) : Calls Try.prog 40 #[recV 1 ns tube (.slice bp bn bc)] w (NumsPost 1 ns w) := by
  have HG := Lib.hid (heap_alloc_eq w (.cells (recC 1 ns tube (.slice bp bn bc)) 29))
  have HF := Lib.hid ((Fr.refl (fun _ => False) w).alloc (.cells (recC 1 ns tube (.slice bp bn bc)) 29))
  have HR : Hid ((w.alloc (.cells (recC 1 ns tube (.slice bp bn bc)) 29)).rangeAt w.heap.size 4 (jobC ns tube (.slice bp bn bc)).toList) := Lib.hid (job_range HG.out)
  have HC : Hid (∀ w' : World, w'.heap[w.heap.size]? = some (.cells (recC 1 ns tube (.slice bp bn bc)) 29 (0, 0)) → w'.cell? ⟨w.heap.size, 0, none⟩ = some (.int .i64 1) ∧ w'.cell? ⟨w.heap.size, 1, none⟩ = some (.int .i64 (at0 ns 13)) ∧ w'.cell? ⟨w.heap.size, 2, none⟩ = some (.int .i64 (at0 ns 14)) ∧ w'.cell? ⟨w.heap.size, 3, none⟩ = some (.int .i64 (at0 ns 15))) := Lib.hid (fun w' h => ⟨cell_is h 0 rfl, cell_is h 1 rfl, cell_is h 2 rfl, cell_is h 3 rfl⟩)
  unfold recV
  generalize recC 1 ns tube (.slice bp bn bc) = rc at *
  go_enter Try.func40, Try.ntmps40
  go_wp2_with (first
    | ((refine load_guard _ _ rfl ?_); refine wpList_load_mid rfl 27 _ rfl w.heap.size 4 rfl _ _ HR.out Try.underlying27 rfl info27s ?_)
    | ((refine store_guard _ _ _ _ rfl ?_); refine wpList_store_agg _ rfl _ _ 27 rfl (w.heap.size + 1) 27 _ (jobC ns tube (.slice bp bn bc)) rfl rfl info27s (heap_alloc_at _ _ _ (by simp)) rfl (jobC_one _ _ _ _ _) ?_; intro w3 hw3 hf3; have hf13 : Fr (fun _ => False) (w.alloc (.cells rc 29)) w3 := ((Fr.refl (fun _ => False) _).alloc _).trans hf3 (fun x hx h => by simp at hx; omega); have HF3 := Lib.hid (HF.out.trans hf13 (fun _ _ h => h)); obtain ⟨c0, c1, c2, c3⟩ := HC.out w3 (hf13.get HG.out id); have p0 : w3.cell? ⟨w.heap.size + 1, 0, none⟩ = some (.int .i64 (at0 ns 0)) := cell_is hw3 0 rfl; have p1 : w3.cell? ⟨w.heap.size + 1, 1, none⟩ = some (.int .i64 (at0 ns 1)) := cell_is hw3 1 rfl; have p2 : w3.cell? ⟨w.heap.size + 1, 2, none⟩ = some (.int .i64 (at0 ns 2)) := cell_is hw3 2 rfl; have p3 : w3.cell? ⟨w.heap.size + 1, 3, none⟩ = some (.int .i64 (at0 ns 3)) := cell_is hw3 3 rfl; have p4 : w3.cell? ⟨w.heap.size + 1, 4, none⟩ = some (.int .i64 (at0 ns 4)) := cell_is hw3 4 rfl; have p5 : w3.cell? ⟨w.heap.size + 1, 5, none⟩ = some (.int .i64 (at0 ns 5)) := cell_is hw3 5 rfl; have p6 : w3.cell? ⟨w.heap.size + 1, 6, none⟩ = some (.int .i64 (at0 ns 6)) := cell_is hw3 6 rfl; have p7 : w3.cell? ⟨w.heap.size + 1, 7, none⟩ = some (.int .i64 (at0 ns 7)) := cell_is hw3 7 rfl; have p8 : w3.cell? ⟨w.heap.size + 1, 8, none⟩ = some (.int .i64 (at0 ns 8)) := cell_is hw3 8 rfl; have p9 : w3.cell? ⟨w.heap.size + 1, 9, none⟩ = some (.int .i64 (at0 ns 9)) := cell_is hw3 9 rfl; have p10 : w3.cell? ⟨w.heap.size + 1, 10, none⟩ = some (.int .i64 (at0 ns 10)) := cell_is hw3 10 rfl; have p11 : w3.cell? ⟨w.heap.size + 1, 11, none⟩ = some (.int .i64 (at0 ns 11)) := cell_is hw3 11 rfl; have p12 : w3.cell? ⟨w.heap.size + 1, 12, none⟩ = some (.int .i64 (at0 ns 12)) := cell_is hw3 12 rfl; have hlt3 : w.heap.size < w3.heap.size := lt_of_heap (hf13.get HG.out id); have hlt4 : w.heap.size + 1 < w3.heap.size := lt_of_heap hw3; clear hw3 hf3 hf13)
)
  go_ret
  exact ⟨_, rfl, (by have h := own_lit 3 (fun x => w.heap.size ≤ x) (w3.alloc (.cells #[.int .i64 (at0 ns 8), .int .i64 (at0 ns 9), .int .i64 (at0 ns 10), .int .i64 (at0 ns 11), .int .i64 (at0 ns 12)] 3)) [.int .i64 (at0 ns 13), .int .i64 (at0 ns 14)] 2 rfl (by simp; omega) (by decide); rw [World.size_alloc] at h; exact h), (HF3.out.alloc _).alloc _⟩

set_option maxRecDepth 100000 in
set_option maxHeartbeats 2000000 in
theorem refnums_2 (ns : List Int) (tube : ByteArray) (bp : Option Addr) (bn bc : Nat) (w : World) : Calls Try.prog 40 #[recV 2 ns tube (.slice bp bn bc)] w (NumsPost 2 ns w) := by
  have HG := Lib.hid (heap_alloc_eq w (.cells (recC 2 ns tube (.slice bp bn bc)) 29))
  have HF := Lib.hid ((Fr.refl (fun _ => False) w).alloc (.cells (recC 2 ns tube (.slice bp bn bc)) 29))
  have HR : Hid ((w.alloc (.cells (recC 2 ns tube (.slice bp bn bc)) 29)).rangeAt w.heap.size 4 (jobC ns tube (.slice bp bn bc)).toList) := Lib.hid (job_range HG.out)
  have HC : Hid (∀ w' : World, w'.heap[w.heap.size]? = some (.cells (recC 2 ns tube (.slice bp bn bc)) 29 (0, 0)) → w'.cell? ⟨w.heap.size, 0, none⟩ = some (.int .i64 2) ∧ w'.cell? ⟨w.heap.size, 1, none⟩ = some (.int .i64 (at0 ns 13)) ∧ w'.cell? ⟨w.heap.size, 2, none⟩ = some (.int .i64 (at0 ns 14)) ∧ w'.cell? ⟨w.heap.size, 3, none⟩ = some (.int .i64 (at0 ns 15))) := Lib.hid (fun w' h => ⟨cell_is h 0 rfl, cell_is h 1 rfl, cell_is h 2 rfl, cell_is h 3 rfl⟩)
  unfold recV
  generalize recC 2 ns tube (.slice bp bn bc) = rc at *
  go_enter Try.func40, Try.ntmps40
  go_wp2_with (first
    | ((refine load_guard _ _ rfl ?_); refine wpList_load_mid rfl 27 _ rfl w.heap.size 4 rfl _ _ HR.out Try.underlying27 rfl info27s ?_)
    | ((refine store_guard _ _ _ _ rfl ?_); refine wpList_store_agg _ rfl _ _ 27 rfl (w.heap.size + 1) 27 _ (jobC ns tube (.slice bp bn bc)) rfl rfl info27s (heap_alloc_at _ _ _ (by simp)) rfl (jobC_one _ _ _ _ _) ?_; intro w3 hw3 hf3; have hf13 : Fr (fun _ => False) (w.alloc (.cells rc 29)) w3 := ((Fr.refl (fun _ => False) _).alloc _).trans hf3 (fun x hx h => by simp at hx; omega); have HF3 := Lib.hid (HF.out.trans hf13 (fun _ _ h => h)); obtain ⟨c0, c1, c2, c3⟩ := HC.out w3 (hf13.get HG.out id); have p0 : w3.cell? ⟨w.heap.size + 1, 0, none⟩ = some (.int .i64 (at0 ns 0)) := cell_is hw3 0 rfl; have p1 : w3.cell? ⟨w.heap.size + 1, 1, none⟩ = some (.int .i64 (at0 ns 1)) := cell_is hw3 1 rfl; have p2 : w3.cell? ⟨w.heap.size + 1, 2, none⟩ = some (.int .i64 (at0 ns 2)) := cell_is hw3 2 rfl; have p3 : w3.cell? ⟨w.heap.size + 1, 3, none⟩ = some (.int .i64 (at0 ns 3)) := cell_is hw3 3 rfl; have p4 : w3.cell? ⟨w.heap.size + 1, 4, none⟩ = some (.int .i64 (at0 ns 4)) := cell_is hw3 4 rfl; have p5 : w3.cell? ⟨w.heap.size + 1, 5, none⟩ = some (.int .i64 (at0 ns 5)) := cell_is hw3 5 rfl; have p6 : w3.cell? ⟨w.heap.size + 1, 6, none⟩ = some (.int .i64 (at0 ns 6)) := cell_is hw3 6 rfl; have p7 : w3.cell? ⟨w.heap.size + 1, 7, none⟩ = some (.int .i64 (at0 ns 7)) := cell_is hw3 7 rfl; have p8 : w3.cell? ⟨w.heap.size + 1, 8, none⟩ = some (.int .i64 (at0 ns 8)) := cell_is hw3 8 rfl; have p9 : w3.cell? ⟨w.heap.size + 1, 9, none⟩ = some (.int .i64 (at0 ns 9)) := cell_is hw3 9 rfl; have p10 : w3.cell? ⟨w.heap.size + 1, 10, none⟩ = some (.int .i64 (at0 ns 10)) := cell_is hw3 10 rfl; have p11 : w3.cell? ⟨w.heap.size + 1, 11, none⟩ = some (.int .i64 (at0 ns 11)) := cell_is hw3 11 rfl; have p12 : w3.cell? ⟨w.heap.size + 1, 12, none⟩ = some (.int .i64 (at0 ns 12)) := cell_is hw3 12 rfl; have hlt3 : w.heap.size < w3.heap.size := lt_of_heap (hf13.get HG.out id); have hlt4 : w.heap.size + 1 < w3.heap.size := lt_of_heap hw3; clear hw3 hf3 hf13)
    | (at_builtin; refine wpList_append_Own _ rfl _ _ 51 rfl 3 (.int .i64 0) 1 8 Try.underlying51 info3 rfl (by decide) (.slice (some ⟨w3.heap.size + 1, 0, none⟩) 8 8) 8 [.int .i64 (at0 ns 0), .int .i64 (at0 ns 1), .int .i64 (at0 ns 2), .int .i64 (at0 ns 3), .int .i64 (at0 ns 4), .int .i64 (at0 ns 5), .int .i64 (at0 ns 6), .int .i64 (at0 ns 7)] rfl (by have h := own_lit 3 (fun x => w.heap.size ≤ x) (w3.alloc (.cells #[.int .i64 (at0 ns 8), .int .i64 (at0 ns 9), .int .i64 (at0 ns 10), .int .i64 (at0 ns 11), .int .i64 (at0 ns 12)] 3)) [.int .i64 (at0 ns 0), .int .i64 (at0 ns 1), .int .i64 (at0 ns 2), .int .i64 (at0 ns 3), .int .i64 (at0 ns 4), .int .i64 (at0 ns 5), .int .i64 (at0 ns 6), .int .i64 (at0 ns 7)] 8 rfl (by simp; omega) (by decide); rw [World.size_alloc] at h; exact h) (.slice (some ⟨w3.heap.size, 0, none⟩) 5 5) 5 [.int .i64 (at0 ns 8), .int .i64 (at0 ns 9), .int .i64 (at0 ns 10), .int .i64 (at0 ns 11), .int .i64 (at0 ns 12)] rfl (src_row ((heap_alloc_lt _ _ _ (by simp)).trans (heap_alloc_eq _ _)) rfl (five_one _ _ _ _ _)) (by decide) (by decide) ?_; intro v4 w4 hv4 hf4 hn4 _; have HV4 := Lib.hid hv4; have HF4 := Lib.hid (((HF3.out.alloc _).alloc _).trans hf4 (fun x hx h => by simp [Value.ownBlock] at h; omega)); clear hv4 hf4 hn4))
  go_ret
  exact ⟨_, rfl, HV4.out.mono (fun x hx h => h.elim id (fun h => by simp at h; omega)), HF4.out⟩

set_option maxRecDepth 100000 in
set_option maxHeartbeats 2000000 in
theorem refnums_3 (ns : List Int) (tube : ByteArray) (bp : Option Addr) (bn bc : Nat) (w : World) : Calls Try.prog 40 #[recV 3 ns tube (.slice bp bn bc)] w (NumsPost 3 ns w) := by
  have HG := Lib.hid (heap_alloc_eq w (.cells (recC 3 ns tube (.slice bp bn bc)) 29))
  have HF := Lib.hid ((Fr.refl (fun _ => False) w).alloc (.cells (recC 3 ns tube (.slice bp bn bc)) 29))
  have HR : Hid ((w.alloc (.cells (recC 3 ns tube (.slice bp bn bc)) 29)).rangeAt w.heap.size 4 (jobC ns tube (.slice bp bn bc)).toList) := Lib.hid (job_range HG.out)
  have HC : Hid (∀ w' : World, w'.heap[w.heap.size]? = some (.cells (recC 3 ns tube (.slice bp bn bc)) 29 (0, 0)) → w'.cell? ⟨w.heap.size, 0, none⟩ = some (.int .i64 3) ∧ w'.cell? ⟨w.heap.size, 1, none⟩ = some (.int .i64 (at0 ns 13)) ∧ w'.cell? ⟨w.heap.size, 2, none⟩ = some (.int .i64 (at0 ns 14)) ∧ w'.cell? ⟨w.heap.size, 3, none⟩ = some (.int .i64 (at0 ns 15))) := Lib.hid (fun w' h => ⟨cell_is h 0 rfl, cell_is h 1 rfl, cell_is h 2 rfl, cell_is h 3 rfl⟩)
  unfold recV
  generalize recC 3 ns tube (.slice bp bn bc) = rc at *
  go_enter Try.func40, Try.ntmps40
  go_wp2_with (first
    | ((refine load_guard _ _ rfl ?_); refine wpList_load_mid rfl 27 _ rfl w.heap.size 4 rfl _ _ HR.out Try.underlying27 rfl info27s ?_)
    | ((refine store_guard _ _ _ _ rfl ?_); refine wpList_store_agg _ rfl _ _ 27 rfl (w.heap.size + 1) 27 _ (jobC ns tube (.slice bp bn bc)) rfl rfl info27s (heap_alloc_at _ _ _ (by simp)) rfl (jobC_one _ _ _ _ _) ?_; intro w3 hw3 hf3; have hf13 : Fr (fun _ => False) (w.alloc (.cells rc 29)) w3 := ((Fr.refl (fun _ => False) _).alloc _).trans hf3 (fun x hx h => by simp at hx; omega); have HF3 := Lib.hid (HF.out.trans hf13 (fun _ _ h => h)); obtain ⟨c0, c1, c2, c3⟩ := HC.out w3 (hf13.get HG.out id); have p0 : w3.cell? ⟨w.heap.size + 1, 0, none⟩ = some (.int .i64 (at0 ns 0)) := cell_is hw3 0 rfl; have p1 : w3.cell? ⟨w.heap.size + 1, 1, none⟩ = some (.int .i64 (at0 ns 1)) := cell_is hw3 1 rfl; have p2 : w3.cell? ⟨w.heap.size + 1, 2, none⟩ = some (.int .i64 (at0 ns 2)) := cell_is hw3 2 rfl; have p3 : w3.cell? ⟨w.heap.size + 1, 3, none⟩ = some (.int .i64 (at0 ns 3)) := cell_is hw3 3 rfl; have p4 : w3.cell? ⟨w.heap.size + 1, 4, none⟩ = some (.int .i64 (at0 ns 4)) := cell_is hw3 4 rfl; have p5 : w3.cell? ⟨w.heap.size + 1, 5, none⟩ = some (.int .i64 (at0 ns 5)) := cell_is hw3 5 rfl; have p6 : w3.cell? ⟨w.heap.size + 1, 6, none⟩ = some (.int .i64 (at0 ns 6)) := cell_is hw3 6 rfl; have p7 : w3.cell? ⟨w.heap.size + 1, 7, none⟩ = some (.int .i64 (at0 ns 7)) := cell_is hw3 7 rfl; have p8 : w3.cell? ⟨w.heap.size + 1, 8, none⟩ = some (.int .i64 (at0 ns 8)) := cell_is hw3 8 rfl; have p9 : w3.cell? ⟨w.heap.size + 1, 9, none⟩ = some (.int .i64 (at0 ns 9)) := cell_is hw3 9 rfl; have p10 : w3.cell? ⟨w.heap.size + 1, 10, none⟩ = some (.int .i64 (at0 ns 10)) := cell_is hw3 10 rfl; have p11 : w3.cell? ⟨w.heap.size + 1, 11, none⟩ = some (.int .i64 (at0 ns 11)) := cell_is hw3 11 rfl; have p12 : w3.cell? ⟨w.heap.size + 1, 12, none⟩ = some (.int .i64 (at0 ns 12)) := cell_is hw3 12 rfl; have hlt3 : w.heap.size < w3.heap.size := lt_of_heap (hf13.get HG.out id); have hlt4 : w.heap.size + 1 < w3.heap.size := lt_of_heap hw3; clear hw3 hf3 hf13)
    | (at_builtin; refine wpList_append_Own _ rfl _ _ 51 rfl 3 (.int .i64 0) 1 8 Try.underlying51 info3 rfl (by decide) (.slice (some ⟨w3.heap.size + 1, 0, none⟩) 6 6) 6 [.int .i64 (at0 ns 0), .int .i64 (at0 ns 1), .int .i64 (at0 ns 2), .int .i64 (at0 ns 5), .int .i64 (at0 ns 6), .int .i64 (at0 ns 7)] rfl (by have h := own_lit 3 (fun x => w.heap.size ≤ x) (w3.alloc (.cells #[.int .i64 (at0 ns 8), .int .i64 (at0 ns 9), .int .i64 (at0 ns 10), .int .i64 (at0 ns 11), .int .i64 (at0 ns 12)] 3)) [.int .i64 (at0 ns 0), .int .i64 (at0 ns 1), .int .i64 (at0 ns 2), .int .i64 (at0 ns 5), .int .i64 (at0 ns 6), .int .i64 (at0 ns 7)] 6 rfl (by simp; omega) (by decide); rw [World.size_alloc] at h; exact h) (.slice (some ⟨w3.heap.size, 0, none⟩) 5 5) 5 [.int .i64 (at0 ns 8), .int .i64 (at0 ns 9), .int .i64 (at0 ns 10), .int .i64 (at0 ns 11), .int .i64 (at0 ns 12)] rfl (src_row ((heap_alloc_lt _ _ _ (by simp)).trans (heap_alloc_eq _ _)) rfl (five_one _ _ _ _ _)) (by decide) (by decide) ?_; intro v4 w4 hv4 hf4 hn4 _; have HV4 := Lib.hid hv4; have HF4 := Lib.hid (((HF3.out.alloc _).alloc _).trans hf4 (fun x hx h => by simp [Value.ownBlock] at h; omega)); clear hv4 hf4 hn4))
  go_ret
  exact ⟨_, rfl, HV4.out.mono (fun x hx h => h.elim id (fun h => by simp at h; omega)), HF4.out⟩

set_option maxRecDepth 100000 in
set_option maxHeartbeats 2000000 in
theorem refnums_4 (ns : List Int) (tube : ByteArray) (bp : Option Addr) (bn bc : Nat) (w : World) : Calls Try.prog 40 #[recV 4 ns tube (.slice bp bn bc)] w (NumsPost 4 ns w) := by
  have HG := Lib.hid (heap_alloc_eq w (.cells (recC 4 ns tube (.slice bp bn bc)) 29))
  have HF := Lib.hid ((Fr.refl (fun _ => False) w).alloc (.cells (recC 4 ns tube (.slice bp bn bc)) 29))
  have HR : Hid ((w.alloc (.cells (recC 4 ns tube (.slice bp bn bc)) 29)).rangeAt w.heap.size 4 (jobC ns tube (.slice bp bn bc)).toList) := Lib.hid (job_range HG.out)
  have HC : Hid (∀ w' : World, w'.heap[w.heap.size]? = some (.cells (recC 4 ns tube (.slice bp bn bc)) 29 (0, 0)) → w'.cell? ⟨w.heap.size, 0, none⟩ = some (.int .i64 4) ∧ w'.cell? ⟨w.heap.size, 1, none⟩ = some (.int .i64 (at0 ns 13)) ∧ w'.cell? ⟨w.heap.size, 2, none⟩ = some (.int .i64 (at0 ns 14)) ∧ w'.cell? ⟨w.heap.size, 3, none⟩ = some (.int .i64 (at0 ns 15))) := Lib.hid (fun w' h => ⟨cell_is h 0 rfl, cell_is h 1 rfl, cell_is h 2 rfl, cell_is h 3 rfl⟩)
  unfold recV
  generalize recC 4 ns tube (.slice bp bn bc) = rc at *
  go_enter Try.func40, Try.ntmps40
  go_wp2_with (first
    | ((refine load_guard _ _ rfl ?_); refine wpList_load_mid rfl 27 _ rfl w.heap.size 4 rfl _ _ HR.out Try.underlying27 rfl info27s ?_)
    | ((refine store_guard _ _ _ _ rfl ?_); refine wpList_store_agg _ rfl _ _ 27 rfl (w.heap.size + 1) 27 _ (jobC ns tube (.slice bp bn bc)) rfl rfl info27s (heap_alloc_at _ _ _ (by simp)) rfl (jobC_one _ _ _ _ _) ?_; intro w3 hw3 hf3; have hf13 : Fr (fun _ => False) (w.alloc (.cells rc 29)) w3 := ((Fr.refl (fun _ => False) _).alloc _).trans hf3 (fun x hx h => by simp at hx; omega); have HF3 := Lib.hid (HF.out.trans hf13 (fun _ _ h => h)); obtain ⟨c0, c1, c2, c3⟩ := HC.out w3 (hf13.get HG.out id); have p0 : w3.cell? ⟨w.heap.size + 1, 0, none⟩ = some (.int .i64 (at0 ns 0)) := cell_is hw3 0 rfl; have p1 : w3.cell? ⟨w.heap.size + 1, 1, none⟩ = some (.int .i64 (at0 ns 1)) := cell_is hw3 1 rfl; have p2 : w3.cell? ⟨w.heap.size + 1, 2, none⟩ = some (.int .i64 (at0 ns 2)) := cell_is hw3 2 rfl; have p3 : w3.cell? ⟨w.heap.size + 1, 3, none⟩ = some (.int .i64 (at0 ns 3)) := cell_is hw3 3 rfl; have p4 : w3.cell? ⟨w.heap.size + 1, 4, none⟩ = some (.int .i64 (at0 ns 4)) := cell_is hw3 4 rfl; have p5 : w3.cell? ⟨w.heap.size + 1, 5, none⟩ = some (.int .i64 (at0 ns 5)) := cell_is hw3 5 rfl; have p6 : w3.cell? ⟨w.heap.size + 1, 6, none⟩ = some (.int .i64 (at0 ns 6)) := cell_is hw3 6 rfl; have p7 : w3.cell? ⟨w.heap.size + 1, 7, none⟩ = some (.int .i64 (at0 ns 7)) := cell_is hw3 7 rfl; have p8 : w3.cell? ⟨w.heap.size + 1, 8, none⟩ = some (.int .i64 (at0 ns 8)) := cell_is hw3 8 rfl; have p9 : w3.cell? ⟨w.heap.size + 1, 9, none⟩ = some (.int .i64 (at0 ns 9)) := cell_is hw3 9 rfl; have p10 : w3.cell? ⟨w.heap.size + 1, 10, none⟩ = some (.int .i64 (at0 ns 10)) := cell_is hw3 10 rfl; have p11 : w3.cell? ⟨w.heap.size + 1, 11, none⟩ = some (.int .i64 (at0 ns 11)) := cell_is hw3 11 rfl; have p12 : w3.cell? ⟨w.heap.size + 1, 12, none⟩ = some (.int .i64 (at0 ns 12)) := cell_is hw3 12 rfl; have hlt3 : w.heap.size < w3.heap.size := lt_of_heap (hf13.get HG.out id); have hlt4 : w.heap.size + 1 < w3.heap.size := lt_of_heap hw3; clear hw3 hf3 hf13)
)
  go_ret
  exact ⟨_, rfl, (by have h := own_lit 3 (fun x => w.heap.size ≤ x) (w3.alloc (.cells #[.int .i64 (at0 ns 8), .int .i64 (at0 ns 9), .int .i64 (at0 ns 10), .int .i64 (at0 ns 11), .int .i64 (at0 ns 12)] 3)) [.int .i64 (at0 ns 15)] 1 rfl (by simp; omega) (by decide); rw [World.size_alloc] at h; exact h), (HF3.out.alloc _).alloc _⟩

theorem refnums_any (k : Int) (ns : List Int) (tube : ByteArray) (bp : Option Addr) (bn bc : Nat) (w : World) (hk : Kind k) : Calls Try.prog 40 #[recV k ns tube (.slice bp bn bc)] w (NumsPost k ns w) := by
  rcases hk with rfl | rfl | rfl | rfl
  · exact refnums_1 ns tube bp bn bc w
  · exact refnums_2 ns tube bp bn bc w
  · exact refnums_3 ns tube bp bn bc w
  · exact refnums_4 ns tube bp bn bc w

end Go.Proofs.Ytpecbhimnpjkdaa
