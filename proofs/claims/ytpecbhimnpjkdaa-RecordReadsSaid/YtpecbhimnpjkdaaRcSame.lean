/- same, of two records that are alike. -/
import Derived.Test.YtpecbhimnpjkdaaRcShown
import Derived.Laws.StructEq
namespace Go.Proofs.Ytpecbhimnpjkdaa
open Go.RowKit Go.Sb

def jobC (ns : List Int) (tube : ByteArray) (body : Value) : Array Value :=
  #[iv (at0 ns 0), iv (at0 ns 1), iv (at0 ns 2), iv (at0 ns 3), iv (at0 ns 4), iv (at0 ns 5), iv (at0 ns 6), iv (at0 ns 7), iv (at0 ns 8), iv (at0 ns 9), iv (at0 ns 10), iv (at0 ns 11), iv (at0 ns 12), .string tube, body]

theorem recC_job (k : Int) (ns : List Int) (tube : ByteArray) (body : Value) : recC k ns tube body = #[iv k, iv (at0 ns 13), iv (at0 ns 14), iv (at0 ns 15)] ++ jobC ns tube body := rfl

theorem job_range {w : World} {b : Nat} {k : Int} {ns : List Int} {tube : ByteArray} {body : Value} (h : w.heap[b]? = some (.cells (recC k ns tube body) 29 (0, 0))) : w.rangeAt b 4 (jobC ns tube body).toList := fun j v hv => by
  refine cell_is h (4 + j) ?_
  rw [recC_job, Array.getElem?_append_right (by simp)]
  simpa using hv

theorem jobC_one (ns : List Int) (tube : ByteArray) (a : Option Addr) (b c : Nat) : ∀ v ∈ (jobC ns tube (.slice a b c)).toList, v.oneCell' = true := one15 _ _ _ _ _ _ _ _ _ _ _ _ _ _ _ _ _

theorem cnt_range {w : World} {b : Nat} {ns : List Int} {tube : ByteArray} {body : Value} (h : w.heap[b]? = some (.cells (jobC ns tube body) 27 (0, 0))) : w.rangeAt b 8 [.int .i64 (at0 ns 8), .int .i64 (at0 ns 9), .int .i64 (at0 ns 10), .int .i64 (at0 ns 11), .int .i64 (at0 ns 12)] := fun j v hv => by
  have hj : j < 5 := (List.getElem?_eq_some_iff.1 hv).1
  refine cell_is h (8 + j) ?_
  match j, hj with
  | 0, _ => exact hv
  | 1, _ => exact hv
  | 2, _ => exact hv
  | 3, _ => exact hv
  | 4, _ => exact hv

theorem info25s : (Try.prog.info? 25).map (·.size) = some 5 := by kernel_rfl

section
variable {w : World} {ops : Array Oper} {rest : List Oper} {o : Oper} {a : Act} {Q : Exit → Act → World → Prop}
theorem wpList_load_mid_w (hw : Region.wanted o (yielded ops a.tmps) = true) (ty : TypeId) (x : Operand) (ho : o.op = .load ty x)
    (b off : Nat) (hx : a.eval x = .pointer (some ⟨b, off, none⟩)) (cs : List Value) (d : TypeDesc) (hc : w.rangeAt b off cs)
    (hu : Try.prog.underlying ty = some d) (hd : d.isRow = true) (hi : (Try.prog.info? ty).map (·.size) = some cs.length)
    (h : wpList Try.prog ops Q rest (a.put o.dst (.agg cs.toArray)) w) : wpList Try.prog ops Q (o :: rest) a w :=
  wpList_step fun K hK => by rw [if_pos hw]; exact wp_load_mid ty x ho b off hx cs d hc hu hd hi (hK _ _ h)
end

set_option maxRecDepth 100000 in
set_option maxHeartbeats 2000000 in
theorem same_eq (k : Int) (ns : List Int) (tube : ByteArray) (v1 v2 : Value) (xs : List UInt8) (w : World) (h1 : RB w v1 xs) (h2 : RB w v2 xs) :
    Calls Try.prog 12 #[recV k ns tube v1, recV k ns tube v2] w fun e w' => e = .returned (.bool true) ∧ Fr (fun _ => False) w w' := by
  obtain ⟨a1, n1, rfl, e1, e2, e3⟩ := h1
  obtain ⟨a2, n2, rfl, e4, e5, e6⟩ := h2
  have H1 := Lib.hid (show RB w (.slice a1 xs.length n1) xs from ⟨a1, n1, rfl, e1, e2, e3⟩)
  have H2 := Lib.hid (show RB w (.slice a2 xs.length n2) xs from ⟨a2, n2, rfl, e4, e5, e6⟩)
  clear e1 e2 e3 e4 e5 e6
  have G1 : Hid (((w.alloc (.cells (recC k ns tube (.slice a1 xs.length n1)) 29)).alloc (.cells (recC k ns tube (.slice a2 xs.length n2)) 29)).heap[w.heap.size]? = some (.cells (recC k ns tube (.slice a1 xs.length n1)) 29 (0, 0))) := Lib.hid ((heap_alloc_lt _ _ _ (by simp)).trans (heap_alloc_eq _ _))
  have G2 : Hid (((w.alloc (.cells (recC k ns tube (.slice a1 xs.length n1)) 29)).alloc (.cells (recC k ns tube (.slice a2 xs.length n2)) 29)).heap[w.heap.size + 1]? = some (.cells (recC k ns tube (.slice a2 xs.length n2)) 29 (0, 0))) := Lib.hid (by have h := heap_alloc_eq (w.alloc (.cells (recC k ns tube (.slice a1 xs.length n1)) 29)) (.cells (recC k ns tube (.slice a2 xs.length n2)) 29); rw [World.size_alloc] at h; exact h)
  have HF0 : Hid (Fr (fun _ => False) w ((w.alloc (.cells (recC k ns tube (.slice a1 xs.length n1)) 29)).alloc (.cells (recC k ns tube (.slice a2 xs.length n2)) 29))) := Lib.hid (((Fr.refl _ w).alloc _).alloc _)
  have c0 : ((w.alloc (.cells (recC k ns tube (.slice a1 xs.length n1)) 29)).alloc (.cells (recC k ns tube (.slice a2 xs.length n2)) 29)).cell? ⟨w.heap.size, 0, none⟩ = some (.int .i64 k) := cell_is G1.out 0 rfl
  have c1 : ((w.alloc (.cells (recC k ns tube (.slice a1 xs.length n1)) 29)).alloc (.cells (recC k ns tube (.slice a2 xs.length n2)) 29)).cell? ⟨w.heap.size, 1, none⟩ = some (.int .i64 (at0 ns 13)) := cell_is G1.out 1 rfl
  have c2 : ((w.alloc (.cells (recC k ns tube (.slice a1 xs.length n1)) 29)).alloc (.cells (recC k ns tube (.slice a2 xs.length n2)) 29)).cell? ⟨w.heap.size, 2, none⟩ = some (.int .i64 (at0 ns 14)) := cell_is G1.out 2 rfl
  have c3 : ((w.alloc (.cells (recC k ns tube (.slice a1 xs.length n1)) 29)).alloc (.cells (recC k ns tube (.slice a2 xs.length n2)) 29)).cell? ⟨w.heap.size, 3, none⟩ = some (.int .i64 (at0 ns 15)) := cell_is G1.out 3 rfl
  have d0 : ((w.alloc (.cells (recC k ns tube (.slice a1 xs.length n1)) 29)).alloc (.cells (recC k ns tube (.slice a2 xs.length n2)) 29)).cell? ⟨w.heap.size + 1, 0, none⟩ = some (.int .i64 k) := cell_is G2.out 0 rfl
  have d1 : ((w.alloc (.cells (recC k ns tube (.slice a1 xs.length n1)) 29)).alloc (.cells (recC k ns tube (.slice a2 xs.length n2)) 29)).cell? ⟨w.heap.size + 1, 1, none⟩ = some (.int .i64 (at0 ns 13)) := cell_is G2.out 1 rfl
  have d2 : ((w.alloc (.cells (recC k ns tube (.slice a1 xs.length n1)) 29)).alloc (.cells (recC k ns tube (.slice a2 xs.length n2)) 29)).cell? ⟨w.heap.size + 1, 2, none⟩ = some (.int .i64 (at0 ns 14)) := cell_is G2.out 2 rfl
  have d3 : ((w.alloc (.cells (recC k ns tube (.slice a1 xs.length n1)) 29)).alloc (.cells (recC k ns tube (.slice a2 xs.length n2)) 29)).cell? ⟨w.heap.size + 1, 3, none⟩ = some (.int .i64 (at0 ns 15)) := cell_is G2.out 3 rfl
  have R1 : Hid (((w.alloc (.cells (recC k ns tube (.slice a1 xs.length n1)) 29)).alloc (.cells (recC k ns tube (.slice a2 xs.length n2)) 29)).rangeAt w.heap.size 4 (jobC ns tube (.slice a1 xs.length n1)).toList) := Lib.hid (job_range G1.out)
  have R2 : Hid (∀ w' : World, Fr (fun _ => False) ((w.alloc (.cells (recC k ns tube (.slice a1 xs.length n1)) 29)).alloc (.cells (recC k ns tube (.slice a2 xs.length n2)) 29)) w' → w'.rangeAt (w.heap.size + 1) 4 (jobC ns tube (.slice a2 xs.length n2)).toList) := Lib.hid (fun w' h => job_range (h.get G2.out id))
  clear G1 G2
  unfold recV
  generalize recC k ns tube (.slice a1 xs.length n1) = r1 at *
  generalize recC k ns tube (.slice a2 xs.length n2) = r2 at *
  go_enter Try.func12, Try.ntmps12
  go_wp2_with (first
    | ((refine load_guard _ _ rfl ?_); refine wpList_load_mid rfl 27 _ rfl w.heap.size 4 rfl _ _ R1.out Try.underlying27 rfl info27s ?_)
    | ((refine store_guard _ _ _ _ rfl ?_); refine wpList_store_agg _ rfl _ _ 27 rfl (w.heap.size + 1 + 1) 27 _ (jobC ns tube (.slice a1 xs.length n1)) rfl rfl info27s (heap_alloc_at _ _ _ (by simp)) rfl (jobC_one _ _ _ _ _) ?_; intro w3 hw3 hf3; have HW3 := Lib.hid hw3; have HF3 := Lib.hid (((Fr.refl (fun _ => False) _).alloc _).trans hf3 (fun x hx h => by simp at hx; omega)); clear hw3 hf3)
    | ((refine load_guard _ _ rfl ?_); refine wpList_load_mid rfl 27 _ rfl (w.heap.size + 1) 4 rfl _ _ (R2.out _ HF3.out) Try.underlying27 rfl info27s ?_)
    | ((refine store_guard _ _ _ _ rfl ?_); refine wpList_store_agg _ rfl _ _ 27 rfl w3.heap.size 27 _ (jobC ns tube (.slice a2 xs.length n2)) rfl rfl info27s (heap_alloc_at _ _ _ (by simp)) rfl (jobC_one _ _ _ _ _) ?_; intro w4 hw4 hf4; have hf34 : Fr (fun _ => False) w3 w4 := ((Fr.refl (fun _ => False) _).alloc _).trans hf4 (fun x hx h => by omega); have HF4 := Lib.hid (HF0.out.trans (HF3.out.trans hf34 (fun _ _ h => h)) (fun _ _ h => h)); have h46 := hf34.get HW3.out id; have p0 : w4.cell? ⟨w.heap.size + 1 + 1, 0, none⟩ = some (.int .i64 (at0 ns 0)) := cell_is h46 0 rfl; have q0 : w4.cell? ⟨w3.heap.size, 0, none⟩ = some (.int .i64 (at0 ns 0)) := cell_is hw4 0 rfl; have p1 : w4.cell? ⟨w.heap.size + 1 + 1, 1, none⟩ = some (.int .i64 (at0 ns 1)) := cell_is h46 1 rfl; have q1 : w4.cell? ⟨w3.heap.size, 1, none⟩ = some (.int .i64 (at0 ns 1)) := cell_is hw4 1 rfl; have p2 : w4.cell? ⟨w.heap.size + 1 + 1, 2, none⟩ = some (.int .i64 (at0 ns 2)) := cell_is h46 2 rfl; have q2 : w4.cell? ⟨w3.heap.size, 2, none⟩ = some (.int .i64 (at0 ns 2)) := cell_is hw4 2 rfl; have p3 : w4.cell? ⟨w.heap.size + 1 + 1, 3, none⟩ = some (.int .i64 (at0 ns 3)) := cell_is h46 3 rfl; have q3 : w4.cell? ⟨w3.heap.size, 3, none⟩ = some (.int .i64 (at0 ns 3)) := cell_is hw4 3 rfl; have p4 : w4.cell? ⟨w.heap.size + 1 + 1, 4, none⟩ = some (.int .i64 (at0 ns 4)) := cell_is h46 4 rfl; have q4 : w4.cell? ⟨w3.heap.size, 4, none⟩ = some (.int .i64 (at0 ns 4)) := cell_is hw4 4 rfl; have p5 : w4.cell? ⟨w.heap.size + 1 + 1, 5, none⟩ = some (.int .i64 (at0 ns 5)) := cell_is h46 5 rfl; have q5 : w4.cell? ⟨w3.heap.size, 5, none⟩ = some (.int .i64 (at0 ns 5)) := cell_is hw4 5 rfl; have p6 : w4.cell? ⟨w.heap.size + 1 + 1, 6, none⟩ = some (.int .i64 (at0 ns 6)) := cell_is h46 6 rfl; have q6 : w4.cell? ⟨w3.heap.size, 6, none⟩ = some (.int .i64 (at0 ns 6)) := cell_is hw4 6 rfl; have p7 : w4.cell? ⟨w.heap.size + 1 + 1, 7, none⟩ = some (.int .i64 (at0 ns 7)) := cell_is h46 7 rfl; have q7 : w4.cell? ⟨w3.heap.size, 7, none⟩ = some (.int .i64 (at0 ns 7)) := cell_is hw4 7 rfl; have p13 : w4.cell? ⟨w.heap.size + 1 + 1, 13, none⟩ = some (.string tube) := cell_is h46 13 rfl; have q13 : w4.cell? ⟨w3.heap.size, 13, none⟩ = some (.string tube) := cell_is hw4 13 rfl; have p14 : w4.cell? ⟨w.heap.size + 1 + 1, 14, none⟩ = some (.slice a1 xs.length n1) := cell_is h46 14 rfl; have q14 : w4.cell? ⟨w3.heap.size, 14, none⟩ = some (.slice a2 xs.length n2) := cell_is hw4 14 rfl;  have P8 := Lib.hid (cnt_range h46); have Q8 := Lib.hid (cnt_range hw4); have X1 := Lib.hid (H1.out.fr HF4.out); have X2 := Lib.hid (H2.out.fr HF4.out); clear hw4 hf4 hf34 h46)
    | ((refine load_guard _ _ rfl ?_); refine wpList_load_mid_w (by rfl) 25 _ rfl (w.heap.size + 1 + 1) 8 rfl _ _ P8.out Try.underlying25 rfl info25s ?_)
    | ((refine load_guard _ _ rfl ?_); refine wpList_load_mid_w (by rfl) 25 _ rfl w3.heap.size 8 rfl _ _ Q8.out Try.underlying25 rfl info25s ?_)
    | (refine wpList_conv_w (by rfl) _ rfl _ _ rfl X1.out ?_)
    | (refine wpList_conv_w (by rfl) _ rfl _ _ rfl X2.out ?_))
  go_ret
  exact ⟨rfl, HF4.out⟩

end Go.Proofs.Ytpecbhimnpjkdaa
