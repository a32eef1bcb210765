/- The numbers of a record: numbersOf, only. -/
import Derived.Test.YtpecbhimnpjkdaaRcJob
import Derived.Deep.RegionHeld3
import Derived.Test.YtpecbhimnpjkdaaRcSet16
import Derived.Test.YtpecbhimnpjkdaaAggs
namespace Go.Proofs.Ytpecbhimnpjkdaa
open Go.RowKit Go.Sb

def recC (k : Int) (ns : List Int) (tube : ByteArray) (body : Value) : Array Value :=
  #[iv k, iv (at0 ns 13), iv (at0 ns 14), iv (at0 ns 15), iv (at0 ns 0), iv (at0 ns 1), iv (at0 ns 2), iv (at0 ns 3), iv (at0 ns 4), iv (at0 ns 5), iv (at0 ns 6), iv (at0 ns 7), iv (at0 ns 8), iv (at0 ns 9), iv (at0 ns 10), iv (at0 ns 11), iv (at0 ns 12), .string tube, body]
def recV (k : Int) (ns : List Int) (tube : ByteArray) (body : Value) : Value := .agg (recC k ns tube body)

theorem list16 {ns : List Int} (h : ns.length = 16) : ns = [at0 ns 0, at0 ns 1, at0 ns 2, at0 ns 3, at0 ns 4, at0 ns 5, at0 ns 6, at0 ns 7, at0 ns 8, at0 ns 9, at0 ns 10, at0 ns 11, at0 ns 12, at0 ns 13, at0 ns 14, at0 ns 15] := by
  match ns, h with
  | [a, b, c, d, e, f, g, i, j, k, l, m, n, o, p, q], _ => rfl

theorem arr16 {ns : List Int} (h : ns.length = 16) : (ns.map iv).toArray = #[iv (at0 ns 0), iv (at0 ns 1), iv (at0 ns 2), iv (at0 ns 3), iv (at0 ns 4), iv (at0 ns 5), iv (at0 ns 6), iv (at0 ns 7), iv (at0 ns 8), iv (at0 ns 9), iv (at0 ns 10), iv (at0 ns 11), iv (at0 ns 12), iv (at0 ns 13), iv (at0 ns 14), iv (at0 ns 15)] := by
  conv => lhs; rw [list16 h]
  rfl

theorem info54s : (Try.prog.info? 54).map (·.size) = some 16 := by kernel_rfl

theorem one16 (n0 n1 n2 n3 n4 n5 n6 n7 n8 n9 n10 n11 n12 n13 n14 n15 : Int) : ∀ v ∈ (#[Value.int .i64 n0, .int .i64 n1, .int .i64 n2, .int .i64 n3, .int .i64 n4, .int .i64 n5, .int .i64 n6, .int .i64 n7, .int .i64 n8, .int .i64 n9, .int .i64 n10, .int .i64 n11, .int .i64 n12, .int .i64 n13, .int .i64 n14, .int .i64 n15] : Array Value).toList, v.oneCell' = true := by
  intro v hv
  simp only [List.mem_cons, List.not_mem_nil, or_false] at hv
  rcases hv with h | h | h | h | h | h | h | h | h | h | h | h | h | h | h | h <;> subst h <;> rfl

theorem cell_fr' {a b : World} (h : Fr (fun _ => False) a b) {p : Addr} {u : Value} (hc : a.cell? p = some u) : b.cell? p = some u := by
  rw [World.cell?_of_block (w := a) (h.block _ (World.block_lt_of_cell? a _ hc) id)]
  exact hc

set_option maxRecDepth 100000 in
set_option maxHeartbeats 2000000 in
theorem numbersOf_any (k : Int) (ns : List Int) (tube : ByteArray) (bp : Option Addr) (bn bc : Nat) (w : World) (hl : ns.length = 16) :
    Calls Try.prog 29 #[recV k ns tube (.slice bp bn bc)] w fun e w' => e = .returned (.agg (ns.map iv).toArray) ∧ Fr (fun _ => False) w w' := by
  rw [arr16 hl]
  unfold recV recC
  generalize at0 ns 0 = n0
  generalize at0 ns 1 = n1
  generalize at0 ns 2 = n2
  generalize at0 ns 3 = n3
  generalize at0 ns 4 = n4
  generalize at0 ns 5 = n5
  generalize at0 ns 6 = n6
  generalize at0 ns 7 = n7
  generalize at0 ns 8 = n8
  generalize at0 ns 9 = n9
  generalize at0 ns 10 = n10
  generalize at0 ns 11 = n11
  generalize at0 ns 12 = n12
  generalize at0 ns 13 = n13
  generalize at0 ns 14 = n14
  generalize at0 ns 15 = n15
  clear hl
  unfold iv
  go_enter Try.func29, Try.ntmps29
  go_wp2_with (fail)
  have hA : ((w.alloc (.cells #[.int .i64 k, .int .i64 n13, .int .i64 n14, .int .i64 n15, .int .i64 n0, .int .i64 n1, .int .i64 n2, .int .i64 n3, .int .i64 n4, .int .i64 n5, .int .i64 n6, .int .i64 n7, .int .i64 n8, .int .i64 n9, .int .i64 n10, .int .i64 n11, .int .i64 n12, .string tube, .slice bp bn bc] 29)).alloc (.cells #[.int .i64 0, .int .i64 0, .int .i64 0, .int .i64 0, .int .i64 0, .int .i64 0, .int .i64 0, .int .i64 0, .int .i64 0, .int .i64 0, .int .i64 0, .int .i64 0, .int .i64 0, .int .i64 0, .int .i64 0, .int .i64 0] 54)).heap[w.heap.size]? = some (.cells #[.int .i64 k, .int .i64 n13, .int .i64 n14, .int .i64 n15, .int .i64 n0, .int .i64 n1, .int .i64 n2, .int .i64 n3, .int .i64 n4, .int .i64 n5, .int .i64 n6, .int .i64 n7, .int .i64 n8, .int .i64 n9, .int .i64 n10, .int .i64 n11, .int .i64 n12, .string tube, .slice bp bn bc] 29 (0, 0)) := (heap_alloc_lt _ _ _ (by simp)).trans (heap_alloc_eq _ _)
  have hF : Fr (fun _ => False) w ((w.alloc (.cells #[.int .i64 k, .int .i64 n13, .int .i64 n14, .int .i64 n15, .int .i64 n0, .int .i64 n1, .int .i64 n2, .int .i64 n3, .int .i64 n4, .int .i64 n5, .int .i64 n6, .int .i64 n7, .int .i64 n8, .int .i64 n9, .int .i64 n10, .int .i64 n11, .int .i64 n12, .string tube, .slice bp bn bc] 29)).alloc (.cells #[.int .i64 0, .int .i64 0, .int .i64 0, .int .i64 0, .int .i64 0, .int .i64 0, .int .i64 0, .int .i64 0, .int .i64 0, .int .i64 0, .int .i64 0, .int .i64 0, .int .i64 0, .int .i64 0, .int .i64 0, .int .i64 0] 54)) := ((Fr.refl _ w).alloc _).alloc _
  have hb : w.heap.size + 1 < ((w.alloc (.cells #[.int .i64 k, .int .i64 n13, .int .i64 n14, .int .i64 n15, .int .i64 n0, .int .i64 n1, .int .i64 n2, .int .i64 n3, .int .i64 n4, .int .i64 n5, .int .i64 n6, .int .i64 n7, .int .i64 n8, .int .i64 n9, .int .i64 n10, .int .i64 n11, .int .i64 n12, .string tube, .slice bp bn bc] 29)).alloc (.cells #[.int .i64 0, .int .i64 0, .int .i64 0, .int .i64 0, .int .i64 0, .int .i64 0, .int .i64 0, .int .i64 0, .int .i64 0, .int .i64 0, .int .i64 0, .int .i64 0, .int .i64 0, .int .i64 0, .int .i64 0, .int .i64 0] 54)).heap.size := by simp
  have hz : ((w.alloc (.cells #[.int .i64 k, .int .i64 n13, .int .i64 n14, .int .i64 n15, .int .i64 n0, .int .i64 n1, .int .i64 n2, .int .i64 n3, .int .i64 n4, .int .i64 n5, .int .i64 n6, .int .i64 n7, .int .i64 n8, .int .i64 n9, .int .i64 n10, .int .i64 n11, .int .i64 n12, .string tube, .slice bp bn bc] 29)).alloc (.cells #[.int .i64 0, .int .i64 0, .int .i64 0, .int .i64 0, .int .i64 0, .int .i64 0, .int .i64 0, .int .i64 0, .int .i64 0, .int .i64 0, .int .i64 0, .int .i64 0, .int .i64 0, .int .i64 0, .int .i64 0, .int .i64 0] 54)).heap[w.heap.size + 1]? = some (.cells #[.int .i64 0, .int .i64 0, .int .i64 0, .int .i64 0, .int .i64 0, .int .i64 0, .int .i64 0, .int .i64 0, .int .i64 0, .int .i64 0, .int .i64 0, .int .i64 0, .int .i64 0, .int .i64 0, .int .i64 0, .int .i64 0] 54 (0, 0)) := by
    have := heap_alloc_eq (w.alloc (.cells #[.int .i64 k, .int .i64 n13, .int .i64 n14, .int .i64 n15, .int .i64 n0, .int .i64 n1, .int .i64 n2, .int .i64 n3, .int .i64 n4, .int .i64 n5, .int .i64 n6, .int .i64 n7, .int .i64 n8, .int .i64 n9, .int .i64 n10, .int .i64 n11, .int .i64 n12, .string tube, .slice bp bn bc] 29)) (.cells #[.int .i64 0, .int .i64 0, .int .i64 0, .int .i64 0, .int .i64 0, .int .i64 0, .int .i64 0, .int .i64 0, .int .i64 0, .int .i64 0, .int .i64 0, .int .i64 0, .int .i64 0, .int .i64 0, .int .i64 0, .int .i64 0] 54)
    rw [World.size_alloc] at this
    exact this
  generalize ((w.alloc (.cells #[.int .i64 k, .int .i64 n13, .int .i64 n14, .int .i64 n15, .int .i64 n0, .int .i64 n1, .int .i64 n2, .int .i64 n3, .int .i64 n4, .int .i64 n5, .int .i64 n6, .int .i64 n7, .int .i64 n8, .int .i64 n9, .int .i64 n10, .int .i64 n11, .int .i64 n12, .string tube, .slice bp bn bc] 29)).alloc (.cells #[.int .i64 0, .int .i64 0, .int .i64 0, .int .i64 0, .int .i64 0, .int .i64 0, .int .i64 0, .int .i64 0, .int .i64 0, .int .i64 0, .int .i64 0, .int .i64 0, .int .i64 0, .int .i64 0, .int .i64 0, .int .i64 0] 54)) = w1 at *
  have HF := Lib.hid hF
  have HZ := Lib.hid hz
  have HB := Lib.hid hb
  clear hF hz
  have hb0 : w.heap.size < w1.heap.size := by omega
  generalize hbb : w.heap.size = b at *
  have c0 : w1.cell? ⟨b, 0, none⟩ = some (.int .i64 k) := cell_is hA 0 rfl
  have c1 : w1.cell? ⟨b, 1, none⟩ = some (.int .i64 n13) := cell_is hA 1 rfl
  have c2 : w1.cell? ⟨b, 2, none⟩ = some (.int .i64 n14) := cell_is hA 2 rfl
  have c3 : w1.cell? ⟨b, 3, none⟩ = some (.int .i64 n15) := cell_is hA 3 rfl
  have c4 : w1.cell? ⟨b, 4, none⟩ = some (.int .i64 n0) := cell_is hA 4 rfl
  have c5 : w1.cell? ⟨b, 5, none⟩ = some (.int .i64 n1) := cell_is hA 5 rfl
  have c6 : w1.cell? ⟨b, 6, none⟩ = some (.int .i64 n2) := cell_is hA 6 rfl
  have c7 : w1.cell? ⟨b, 7, none⟩ = some (.int .i64 n3) := cell_is hA 7 rfl
  have c8 : w1.cell? ⟨b, 8, none⟩ = some (.int .i64 n4) := cell_is hA 8 rfl
  have c9 : w1.cell? ⟨b, 9, none⟩ = some (.int .i64 n5) := cell_is hA 9 rfl
  have c10 : w1.cell? ⟨b, 10, none⟩ = some (.int .i64 n6) := cell_is hA 10 rfl
  have c11 : w1.cell? ⟨b, 11, none⟩ = some (.int .i64 n7) := cell_is hA 11 rfl
  have c12 : w1.cell? ⟨b, 12, none⟩ = some (.int .i64 n8) := cell_is hA 12 rfl
  have c13 : w1.cell? ⟨b, 13, none⟩ = some (.int .i64 n9) := cell_is hA 13 rfl
  have c14 : w1.cell? ⟨b, 14, none⟩ = some (.int .i64 n10) := cell_is hA 14 rfl
  have c15 : w1.cell? ⟨b, 15, none⟩ = some (.int .i64 n11) := cell_is hA 15 rfl
  have c16 : w1.cell? ⟨b, 16, none⟩ = some (.int .i64 n12) := cell_is hA 16 rfl
  have c17 : w1.cell? ⟨b, 17, none⟩ = some (.string tube) := cell_is hA 17 rfl
  have c18 : w1.cell? ⟨b, 18, none⟩ = some (.slice bp bn bc) := cell_is hA 18 rfl
  clear hA
  go_region_held3 (fun w' => w'.cell? ⟨b, 4, none⟩ = some (.int .i64 n0) ∧ w'.cell? ⟨b, 5, none⟩ = some (.int .i64 n1) ∧ w'.cell? ⟨b, 6, none⟩ = some (.int .i64 n2) ∧ w'.cell? ⟨b, 7, none⟩ = some (.int .i64 n3) ∧ w'.cell? ⟨b, 8, none⟩ = some (.int .i64 n4) ∧ w'.cell? ⟨b, 9, none⟩ = some (.int .i64 n5) ∧ w'.cell? ⟨b, 10, none⟩ = some (.int .i64 n6) ∧ w'.cell? ⟨b, 11, none⟩ = some (.int .i64 n7) ∧ w'.cell? ⟨b, 12, none⟩ = some (.int .i64 n8) ∧ w'.cell? ⟨b, 13, none⟩ = some (.int .i64 n9) ∧ w'.cell? ⟨b, 14, none⟩ = some (.int .i64 n10) ∧ w'.cell? ⟨b, 15, none⟩ = some (.int .i64 n11) ∧ w'.cell? ⟨b, 16, none⟩ = some (.int .i64 n12) ∧ w'.cell? ⟨b, 17, none⟩ = some (.string tube) ∧ w'.cell? ⟨b, 18, none⟩ = some (.slice bp bn bc)) (first | exact ⟨c4, c5, c6, c7, c8, c9, c10, c11, c12, c13, c14, c15, c16, c17, c18⟩ | go_keep) (first | fail)
  · rename_i hHeldX
    clear hHeldX
    have hF1 : Fr (fun _ => False) w1 (((w1.alloc (.cells #[.int .i64 n0, .int .i64 n1, .int .i64 n2, .int .i64 n3, .int .i64 n4, .int .i64 n5, .int .i64 n6, .int .i64 n7, .int .i64 n8, .int .i64 n9, .int .i64 n10, .int .i64 n11, .int .i64 n12, .string tube, .slice bp bn bc] 27)).alloc (.cells #[.int .i64 n8, .int .i64 n9, .int .i64 n10, .int .i64 n11, .int .i64 n12] 25)).drew) := (((Fr.refl _ w1).alloc _).alloc _).drew
    have g3 : (((w1.alloc (.cells #[.int .i64 n0, .int .i64 n1, .int .i64 n2, .int .i64 n3, .int .i64 n4, .int .i64 n5, .int .i64 n6, .int .i64 n7, .int .i64 n8, .int .i64 n9, .int .i64 n10, .int .i64 n11, .int .i64 n12, .string tube, .slice bp bn bc] 27)).alloc (.cells #[.int .i64 n8, .int .i64 n9, .int .i64 n10, .int .i64 n11, .int .i64 n12] 25)).drew).heap[w1.heap.size]? = some (.cells #[.int .i64 n0, .int .i64 n1, .int .i64 n2, .int .i64 n3, .int .i64 n4, .int .i64 n5, .int .i64 n6, .int .i64 n7, .int .i64 n8, .int .i64 n9, .int .i64 n10, .int .i64 n11, .int .i64 n12, .string tube, .slice bp bn bc] 27 (0, 0)) := (heap_alloc_lt _ _ _ (by simp)).trans (heap_alloc_eq _ _)
    have g4 : (((w1.alloc (.cells #[.int .i64 n0, .int .i64 n1, .int .i64 n2, .int .i64 n3, .int .i64 n4, .int .i64 n5, .int .i64 n6, .int .i64 n7, .int .i64 n8, .int .i64 n9, .int .i64 n10, .int .i64 n11, .int .i64 n12, .string tube, .slice bp bn bc] 27)).alloc (.cells #[.int .i64 n8, .int .i64 n9, .int .i64 n10, .int .i64 n11, .int .i64 n12] 25)).drew).heap[w1.heap.size + 1]? = some (.cells #[.int .i64 n8, .int .i64 n9, .int .i64 n10, .int .i64 n11, .int .i64 n12] 25 (0, 0)) := by have := heap_alloc_eq (w1.alloc (.cells #[.int .i64 n0, .int .i64 n1, .int .i64 n2, .int .i64 n3, .int .i64 n4, .int .i64 n5, .int .i64 n6, .int .i64 n7, .int .i64 n8, .int .i64 n9, .int .i64 n10, .int .i64 n11, .int .i64 n12, .string tube, .slice bp bn bc] 27)) (.cells #[.int .i64 n8, .int .i64 n9, .int .i64 n10, .int .i64 n11, .int .i64 n12] 25); rw [World.size_alloc] at this; exact this
    have d1 := cell_fr' hF1 c1
    have d2 := cell_fr' hF1 c2
    have d3 := cell_fr' hF1 c3
    clear c0 c1 c2 c3 c4 c5 c6 c7 c8 c9 c10 c11 c12 c13 c14 c15 c16 c17 c18
    have HF1 := Lib.hid hF1
    have gz := hF1.get HZ.out id
    clear hF1
    generalize (((w1.alloc (.cells #[.int .i64 n0, .int .i64 n1, .int .i64 n2, .int .i64 n3, .int .i64 n4, .int .i64 n5, .int .i64 n6, .int .i64 n7, .int .i64 n8, .int .i64 n9, .int .i64 n10, .int .i64 n11, .int .i64 n12, .string tube, .slice bp bn bc] 27)).alloc (.cells #[.int .i64 n8, .int .i64 n9, .int .i64 n10, .int .i64 n11, .int .i64 n12] 25)).drew) = w2 at *
    generalize hq4 : w1.heap.size + 1 = p4 at *
    generalize hq3 : w1.heap.size = p3 at *
    have e0 : w2.cell? ⟨p3, 0, none⟩ = some (.int .i64 n0) := cell_is g3 0 rfl
    have e1 : w2.cell? ⟨p3, 1, none⟩ = some (.int .i64 n1) := cell_is g3 1 rfl
    have e2 : w2.cell? ⟨p3, 2, none⟩ = some (.int .i64 n2) := cell_is g3 2 rfl
    have e3 : w2.cell? ⟨p3, 3, none⟩ = some (.int .i64 n3) := cell_is g3 3 rfl
    have e4 : w2.cell? ⟨p3, 4, none⟩ = some (.int .i64 n4) := cell_is g3 4 rfl
    have e5 : w2.cell? ⟨p3, 5, none⟩ = some (.int .i64 n5) := cell_is g3 5 rfl
    have e6 : w2.cell? ⟨p3, 6, none⟩ = some (.int .i64 n6) := cell_is g3 6 rfl
    have e7 : w2.cell? ⟨p3, 7, none⟩ = some (.int .i64 n7) := cell_is g3 7 rfl
    have f0 : w2.cell? ⟨p4, 0, none⟩ = some (.int .i64 n8) := cell_is g4 0 rfl
    have f1 : w2.cell? ⟨p4, 1, none⟩ = some (.int .i64 n9) := cell_is g4 1 rfl
    have f2 : w2.cell? ⟨p4, 2, none⟩ = some (.int .i64 n10) := cell_is g4 2 rfl
    have f3 : w2.cell? ⟨p4, 3, none⟩ = some (.int .i64 n11) := cell_is g4 3 rfl
    have f4 : w2.cell? ⟨p4, 4, none⟩ = some (.int .i64 n12) := cell_is g4 4 rfl
    have GZ := Lib.hid gz
    clear g3 g4 gz
    go_wp2_with ((refine store_guard _ _ _ _ rfl ?_); refine wpList_store_agg _ rfl _ _ 54 rfl (b + 1) 54 _ #[.int .i64 n0, .int .i64 n1, .int .i64 n2, .int .i64 n3, .int .i64 n4, .int .i64 n5, .int .i64 n6, .int .i64 n7, .int .i64 n8, .int .i64 n9, .int .i64 n10, .int .i64 n11, .int .i64 n12, .int .i64 n13, .int .i64 n14, .int .i64 n15] rfl rfl info54s GZ.out rfl (one16 _ _ _ _ _ _ _ _ _ _ _ _ _ _ _ _) ?_; intro w3 hw3 hf3)
    have hle : w.heap.size ≤ b + 1 := by omega
    have hfin : Fr (fun _ => False) w w3 := (HF.out.trans HF1.out (fun _ _ h => h)).trans hf3 (fun x hx h => absurd hx (by omega))
    refine bodyPost_ret (v := .agg #[.int .i64 n0, .int .i64 n1, .int .i64 n2, .int .i64 n3, .int .i64 n4, .int .i64 n5, .int .i64 n6, .int .i64 n7, .int .i64 n8, .int .i64 n9, .int .i64 n10, .int .i64 n11, .int .i64 n12, .int .i64 n13, .int .i64 n14, .int .i64 n15]) (results_cell_row rfl _ _ (b + 1) 54 _ (0, 0) _ rfl hw3 Try.underlying54 rfl info54s) rfl ⟨rfl, hfin⟩
  · rename_i hHeldX
    clear hHeldX
    have hF1 : Fr (fun _ => False) w1 (((w1.alloc (.cells #[.int .i64 n8, .int .i64 n9, .int .i64 n10, .int .i64 n11, .int .i64 n12] 25)).alloc (.cells #[.int .i64 n0, .int .i64 n1, .int .i64 n2, .int .i64 n3, .int .i64 n4, .int .i64 n5, .int .i64 n6, .int .i64 n7, .int .i64 n8, .int .i64 n9, .int .i64 n10, .int .i64 n11, .int .i64 n12, .string tube, .slice bp bn bc] 27)).drew) := (((Fr.refl _ w1).alloc _).alloc _).drew
    have g3 : (((w1.alloc (.cells #[.int .i64 n8, .int .i64 n9, .int .i64 n10, .int .i64 n11, .int .i64 n12] 25)).alloc (.cells #[.int .i64 n0, .int .i64 n1, .int .i64 n2, .int .i64 n3, .int .i64 n4, .int .i64 n5, .int .i64 n6, .int .i64 n7, .int .i64 n8, .int .i64 n9, .int .i64 n10, .int .i64 n11, .int .i64 n12, .string tube, .slice bp bn bc] 27)).drew).heap[w1.heap.size + 1]? = some (.cells #[.int .i64 n0, .int .i64 n1, .int .i64 n2, .int .i64 n3, .int .i64 n4, .int .i64 n5, .int .i64 n6, .int .i64 n7, .int .i64 n8, .int .i64 n9, .int .i64 n10, .int .i64 n11, .int .i64 n12, .string tube, .slice bp bn bc] 27 (0, 0)) := by have := heap_alloc_eq (w1.alloc (.cells #[.int .i64 n8, .int .i64 n9, .int .i64 n10, .int .i64 n11, .int .i64 n12] 25)) (.cells #[.int .i64 n0, .int .i64 n1, .int .i64 n2, .int .i64 n3, .int .i64 n4, .int .i64 n5, .int .i64 n6, .int .i64 n7, .int .i64 n8, .int .i64 n9, .int .i64 n10, .int .i64 n11, .int .i64 n12, .string tube, .slice bp bn bc] 27); rw [World.size_alloc] at this; exact this
    have g4 : (((w1.alloc (.cells #[.int .i64 n8, .int .i64 n9, .int .i64 n10, .int .i64 n11, .int .i64 n12] 25)).alloc (.cells #[.int .i64 n0, .int .i64 n1, .int .i64 n2, .int .i64 n3, .int .i64 n4, .int .i64 n5, .int .i64 n6, .int .i64 n7, .int .i64 n8, .int .i64 n9, .int .i64 n10, .int .i64 n11, .int .i64 n12, .string tube, .slice bp bn bc] 27)).drew).heap[w1.heap.size]? = some (.cells #[.int .i64 n8, .int .i64 n9, .int .i64 n10, .int .i64 n11, .int .i64 n12] 25 (0, 0)) := (heap_alloc_lt _ _ _ (by simp)).trans (heap_alloc_eq _ _)
    have d1 := cell_fr' hF1 c1
    have d2 := cell_fr' hF1 c2
    have d3 := cell_fr' hF1 c3
    clear c0 c1 c2 c3 c4 c5 c6 c7 c8 c9 c10 c11 c12 c13 c14 c15 c16 c17 c18
    have HF1 := Lib.hid hF1
    have gz := hF1.get HZ.out id
    clear hF1
    generalize (((w1.alloc (.cells #[.int .i64 n8, .int .i64 n9, .int .i64 n10, .int .i64 n11, .int .i64 n12] 25)).alloc (.cells #[.int .i64 n0, .int .i64 n1, .int .i64 n2, .int .i64 n3, .int .i64 n4, .int .i64 n5, .int .i64 n6, .int .i64 n7, .int .i64 n8, .int .i64 n9, .int .i64 n10, .int .i64 n11, .int .i64 n12, .string tube, .slice bp bn bc] 27)).drew) = w2 at *
    generalize hq3 : w1.heap.size + 1 = p3 at *
    generalize hq4 : w1.heap.size = p4 at *
    have e0 : w2.cell? ⟨p3, 0, none⟩ = some (.int .i64 n0) := cell_is g3 0 rfl
    have e1 : w2.cell? ⟨p3, 1, none⟩ = some (.int .i64 n1) := cell_is g3 1 rfl
    have e2 : w2.cell? ⟨p3, 2, none⟩ = some (.int .i64 n2) := cell_is g3 2 rfl
    have e3 : w2.cell? ⟨p3, 3, none⟩ = some (.int .i64 n3) := cell_is g3 3 rfl
    have e4 : w2.cell? ⟨p3, 4, none⟩ = some (.int .i64 n4) := cell_is g3 4 rfl
    have e5 : w2.cell? ⟨p3, 5, none⟩ = some (.int .i64 n5) := cell_is g3 5 rfl
    have e6 : w2.cell? ⟨p3, 6, none⟩ = some (.int .i64 n6) := cell_is g3 6 rfl
    have e7 : w2.cell? ⟨p3, 7, none⟩ = some (.int .i64 n7) := cell_is g3 7 rfl
    have f0 : w2.cell? ⟨p4, 0, none⟩ = some (.int .i64 n8) := cell_is g4 0 rfl
    have f1 : w2.cell? ⟨p4, 1, none⟩ = some (.int .i64 n9) := cell_is g4 1 rfl
    have f2 : w2.cell? ⟨p4, 2, none⟩ = some (.int .i64 n10) := cell_is g4 2 rfl
    have f3 : w2.cell? ⟨p4, 3, none⟩ = some (.int .i64 n11) := cell_is g4 3 rfl
    have f4 : w2.cell? ⟨p4, 4, none⟩ = some (.int .i64 n12) := cell_is g4 4 rfl
    have GZ := Lib.hid gz
    clear g3 g4 gz
    go_wp2_with ((refine store_guard _ _ _ _ rfl ?_); refine wpList_store_agg _ rfl _ _ 54 rfl (b + 1) 54 _ #[.int .i64 n0, .int .i64 n1, .int .i64 n2, .int .i64 n3, .int .i64 n4, .int .i64 n5, .int .i64 n6, .int .i64 n7, .int .i64 n8, .int .i64 n9, .int .i64 n10, .int .i64 n11, .int .i64 n12, .int .i64 n13, .int .i64 n14, .int .i64 n15] rfl rfl info54s GZ.out rfl (one16 _ _ _ _ _ _ _ _ _ _ _ _ _ _ _ _) ?_; intro w3 hw3 hf3)
    have hle : w.heap.size ≤ b + 1 := by omega
    have hfin : Fr (fun _ => False) w w3 := (HF.out.trans HF1.out (fun _ _ h => h)).trans hf3 (fun x hx h => absurd hx (by omega))
    refine bodyPost_ret (v := .agg #[.int .i64 n0, .int .i64 n1, .int .i64 n2, .int .i64 n3, .int .i64 n4, .int .i64 n5, .int .i64 n6, .int .i64 n7, .int .i64 n8, .int .i64 n9, .int .i64 n10, .int .i64 n11, .int .i64 n12, .int .i64 n13, .int .i64 n14, .int .i64 n15]) (results_cell_row rfl _ _ (b + 1) 54 _ (0, 0) _ rfl hw3 Try.underlying54 rfl info54s) rfl ⟨rfl, hfin⟩

end Go.Proofs.Ytpecbhimnpjkdaa
