/- Many stores into one block. -/
import Derived.Test.YtpecbhimnpjkdaaBase
namespace Go.Sb
open Go.RowKit

theorem set16 {T : TypeId} {fz : Nat × Nat} {w : World} {b : Nat} (m0 m1 m2 m3 m4 m5 m6 m7 m8 m9 m10 m11 m12 m13 m14 m15 z0 z1 z2 z3 z4 z5 z6 z7 z8 z9 z10 z11 z12 z13 z14 z15 : Value) (h : w.heap[b]? = some (.cells #[z0, z1, z2, z3, z4, z5, z6, z7, z8, z9, z10, z11, z12, z13, z14, z15] T fz)) :
    ((((((((((((((((w.setCell ⟨b, 0, none⟩ (m0)).setCell ⟨b, 1, none⟩ (m1)).setCell ⟨b, 2, none⟩ (m2)).setCell ⟨b, 3, none⟩ (m3)).setCell ⟨b, 4, none⟩ (m4)).setCell ⟨b, 5, none⟩ (m5)).setCell ⟨b, 6, none⟩ (m6)).setCell ⟨b, 7, none⟩ (m7)).setCell ⟨b, 8, none⟩ (m8)).setCell ⟨b, 9, none⟩ (m9)).setCell ⟨b, 10, none⟩ (m10)).setCell ⟨b, 11, none⟩ (m11)).setCell ⟨b, 12, none⟩ (m12)).setCell ⟨b, 13, none⟩ (m13)).setCell ⟨b, 14, none⟩ (m14)).setCell ⟨b, 15, none⟩ (m15)).heap[b]? = some (.cells #[m0, m1, m2, m3, m4, m5, m6, m7, m8, m9, m10, m11, m12, m13, m14, m15] T fz) := by
  have h0 : _ = some (Obj.cells #[m0, z1, z2, z3, z4, z5, z6, z7, z8, z9, z10, z11, z12, z13, z14, z15] T fz) := heap_setCell_eq 0 m0 h
  have h1 : _ = some (Obj.cells #[m0, m1, z2, z3, z4, z5, z6, z7, z8, z9, z10, z11, z12, z13, z14, z15] T fz) := heap_setCell_eq 1 m1 h0
  have h2 : _ = some (Obj.cells #[m0, m1, m2, z3, z4, z5, z6, z7, z8, z9, z10, z11, z12, z13, z14, z15] T fz) := heap_setCell_eq 2 m2 h1
  have h3 : _ = some (Obj.cells #[m0, m1, m2, m3, z4, z5, z6, z7, z8, z9, z10, z11, z12, z13, z14, z15] T fz) := heap_setCell_eq 3 m3 h2
  have h4 : _ = some (Obj.cells #[m0, m1, m2, m3, m4, z5, z6, z7, z8, z9, z10, z11, z12, z13, z14, z15] T fz) := heap_setCell_eq 4 m4 h3
  have h5 : _ = some (Obj.cells #[m0, m1, m2, m3, m4, m5, z6, z7, z8, z9, z10, z11, z12, z13, z14, z15] T fz) := heap_setCell_eq 5 m5 h4
  have h6 : _ = some (Obj.cells #[m0, m1, m2, m3, m4, m5, m6, z7, z8, z9, z10, z11, z12, z13, z14, z15] T fz) := heap_setCell_eq 6 m6 h5
  have h7 : _ = some (Obj.cells #[m0, m1, m2, m3, m4, m5, m6, m7, z8, z9, z10, z11, z12, z13, z14, z15] T fz) := heap_setCell_eq 7 m7 h6
  have h8 : _ = some (Obj.cells #[m0, m1, m2, m3, m4, m5, m6, m7, m8, z9, z10, z11, z12, z13, z14, z15] T fz) := heap_setCell_eq 8 m8 h7
  have h9 : _ = some (Obj.cells #[m0, m1, m2, m3, m4, m5, m6, m7, m8, m9, z10, z11, z12, z13, z14, z15] T fz) := heap_setCell_eq 9 m9 h8
  have h10 : _ = some (Obj.cells #[m0, m1, m2, m3, m4, m5, m6, m7, m8, m9, m10, z11, z12, z13, z14, z15] T fz) := heap_setCell_eq 10 m10 h9
  have h11 : _ = some (Obj.cells #[m0, m1, m2, m3, m4, m5, m6, m7, m8, m9, m10, m11, z12, z13, z14, z15] T fz) := heap_setCell_eq 11 m11 h10
  have h12 : _ = some (Obj.cells #[m0, m1, m2, m3, m4, m5, m6, m7, m8, m9, m10, m11, m12, z13, z14, z15] T fz) := heap_setCell_eq 12 m12 h11
  have h13 : _ = some (Obj.cells #[m0, m1, m2, m3, m4, m5, m6, m7, m8, m9, m10, m11, m12, m13, z14, z15] T fz) := heap_setCell_eq 13 m13 h12
  have h14 : _ = some (Obj.cells #[m0, m1, m2, m3, m4, m5, m6, m7, m8, m9, m10, m11, m12, m13, m14, z15] T fz) := heap_setCell_eq 14 m14 h13
  have h15 : _ = some (Obj.cells #[m0, m1, m2, m3, m4, m5, m6, m7, m8, m9, m10, m11, m12, m13, m14, m15] T fz) := heap_setCell_eq 15 m15 h14
  exact h15

theorem set16F {F : Nat → Prop} {a w : World} {b : Nat} (m0 m1 m2 m3 m4 m5 m6 m7 m8 m9 m10 m11 m12 m13 m14 m15 : Value) (h : Fr F a w) (hb : F b ∨ a.heap.size ≤ b) : Fr F a ((((((((((((((((w.setCell ⟨b, 0, none⟩ (m0)).setCell ⟨b, 1, none⟩ (m1)).setCell ⟨b, 2, none⟩ (m2)).setCell ⟨b, 3, none⟩ (m3)).setCell ⟨b, 4, none⟩ (m4)).setCell ⟨b, 5, none⟩ (m5)).setCell ⟨b, 6, none⟩ (m6)).setCell ⟨b, 7, none⟩ (m7)).setCell ⟨b, 8, none⟩ (m8)).setCell ⟨b, 9, none⟩ (m9)).setCell ⟨b, 10, none⟩ (m10)).setCell ⟨b, 11, none⟩ (m11)).setCell ⟨b, 12, none⟩ (m12)).setCell ⟨b, 13, none⟩ (m13)).setCell ⟨b, 14, none⟩ (m14)).setCell ⟨b, 15, none⟩ (m15)) := by
  exact ((((((((((((((((h.setCell hb _).setCell hb _).setCell hb _).setCell hb _).setCell hb _).setCell hb _).setCell hb _).setCell hb _).setCell hb _).setCell hb _).setCell hb _).setCell hb _).setCell hb _).setCell hb _).setCell hb _).setCell hb _)

theorem set19 {T : TypeId} {fz : Nat × Nat} {w : World} {b : Nat} (m0 m1 m2 m3 m4 m5 m6 m7 m8 m9 m10 m11 m12 m13 m14 m15 m16 m17 m18 z0 z1 z2 z3 z4 z5 z6 z7 z8 z9 z10 z11 z12 z13 z14 z15 z16 z17 z18 : Value) (h : w.heap[b]? = some (.cells #[z0, z1, z2, z3, z4, z5, z6, z7, z8, z9, z10, z11, z12, z13, z14, z15, z16, z17, z18] T fz)) :
    (((((((((((((((((((w.setCell ⟨b, 0, none⟩ (m0)).setCell ⟨b, 1, none⟩ (m1)).setCell ⟨b, 2, none⟩ (m2)).setCell ⟨b, 3, none⟩ (m3)).setCell ⟨b, 4, none⟩ (m4)).setCell ⟨b, 5, none⟩ (m5)).setCell ⟨b, 6, none⟩ (m6)).setCell ⟨b, 7, none⟩ (m7)).setCell ⟨b, 8, none⟩ (m8)).setCell ⟨b, 9, none⟩ (m9)).setCell ⟨b, 10, none⟩ (m10)).setCell ⟨b, 11, none⟩ (m11)).setCell ⟨b, 12, none⟩ (m12)).setCell ⟨b, 13, none⟩ (m13)).setCell ⟨b, 14, none⟩ (m14)).setCell ⟨b, 15, none⟩ (m15)).setCell ⟨b, 16, none⟩ (m16)).setCell ⟨b, 17, none⟩ (m17)).setCell ⟨b, 18, none⟩ (m18)).heap[b]? = some (.cells #[m0, m1, m2, m3, m4, m5, m6, m7, m8, m9, m10, m11, m12, m13, m14, m15, m16, m17, m18] T fz) := by
  have h0 : _ = some (Obj.cells #[m0, z1, z2, z3, z4, z5, z6, z7, z8, z9, z10, z11, z12, z13, z14, z15, z16, z17, z18] T fz) := heap_setCell_eq 0 m0 h
  have h1 : _ = some (Obj.cells #[m0, m1, z2, z3, z4, z5, z6, z7, z8, z9, z10, z11, z12, z13, z14, z15, z16, z17, z18] T fz) := heap_setCell_eq 1 m1 h0
  have h2 : _ = some (Obj.cells #[m0, m1, m2, z3, z4, z5, z6, z7, z8, z9, z10, z11, z12, z13, z14, z15, z16, z17, z18] T fz) := heap_setCell_eq 2 m2 h1
  have h3 : _ = some (Obj.cells #[m0, m1, m2, m3, z4, z5, z6, z7, z8, z9, z10, z11, z12, z13, z14, z15, z16, z17, z18] T fz) := heap_setCell_eq 3 m3 h2
  have h4 : _ = some (Obj.cells #[m0, m1, m2, m3, m4, z5, z6, z7, z8, z9, z10, z11, z12, z13, z14, z15, z16, z17, z18] T fz) := heap_setCell_eq 4 m4 h3
  have h5 : _ = some (Obj.cells #[m0, m1, m2, m3, m4, m5, z6, z7, z8, z9, z10, z11, z12, z13, z14, z15, z16, z17, z18] T fz) := heap_setCell_eq 5 m5 h4
  have h6 : _ = some (Obj.cells #[m0, m1, m2, m3, m4, m5, m6, z7, z8, z9, z10, z11, z12, z13, z14, z15, z16, z17, z18] T fz) := heap_setCell_eq 6 m6 h5
  have h7 : _ = some (Obj.cells #[m0, m1, m2, m3, m4, m5, m6, m7, z8, z9, z10, z11, z12, z13, z14, z15, z16, z17, z18] T fz) := heap_setCell_eq 7 m7 h6
  have h8 : _ = some (Obj.cells #[m0, m1, m2, m3, m4, m5, m6, m7, m8, z9, z10, z11, z12, z13, z14, z15, z16, z17, z18] T fz) := heap_setCell_eq 8 m8 h7
  have h9 : _ = some (Obj.cells #[m0, m1, m2, m3, m4, m5, m6, m7, m8, m9, z10, z11, z12, z13, z14, z15, z16, z17, z18] T fz) := heap_setCell_eq 9 m9 h8
  have h10 : _ = some (Obj.cells #[m0, m1, m2, m3, m4, m5, m6, m7, m8, m9, m10, z11, z12, z13, z14, z15, z16, z17, z18] T fz) := heap_setCell_eq 10 m10 h9
  have h11 : _ = some (Obj.cells #[m0, m1, m2, m3, m4, m5, m6, m7, m8, m9, m10, m11, z12, z13, z14, z15, z16, z17, z18] T fz) := heap_setCell_eq 11 m11 h10
  have h12 : _ = some (Obj.cells #[m0, m1, m2, m3, m4, m5, m6, m7, m8, m9, m10, m11, m12, z13, z14, z15, z16, z17, z18] T fz) := heap_setCell_eq 12 m12 h11
  have h13 : _ = some (Obj.cells #[m0, m1, m2, m3, m4, m5, m6, m7, m8, m9, m10, m11, m12, m13, z14, z15, z16, z17, z18] T fz) := heap_setCell_eq 13 m13 h12
  have h14 : _ = some (Obj.cells #[m0, m1, m2, m3, m4, m5, m6, m7, m8, m9, m10, m11, m12, m13, m14, z15, z16, z17, z18] T fz) := heap_setCell_eq 14 m14 h13
  have h15 : _ = some (Obj.cells #[m0, m1, m2, m3, m4, m5, m6, m7, m8, m9, m10, m11, m12, m13, m14, m15, z16, z17, z18] T fz) := heap_setCell_eq 15 m15 h14
  have h16 : _ = some (Obj.cells #[m0, m1, m2, m3, m4, m5, m6, m7, m8, m9, m10, m11, m12, m13, m14, m15, m16, z17, z18] T fz) := heap_setCell_eq 16 m16 h15
  have h17 : _ = some (Obj.cells #[m0, m1, m2, m3, m4, m5, m6, m7, m8, m9, m10, m11, m12, m13, m14, m15, m16, m17, z18] T fz) := heap_setCell_eq 17 m17 h16
  have h18 : _ = some (Obj.cells #[m0, m1, m2, m3, m4, m5, m6, m7, m8, m9, m10, m11, m12, m13, m14, m15, m16, m17, m18] T fz) := heap_setCell_eq 18 m18 h17
  exact h18

theorem set19F {F : Nat → Prop} {a w : World} {b : Nat} (m0 m1 m2 m3 m4 m5 m6 m7 m8 m9 m10 m11 m12 m13 m14 m15 m16 m17 m18 : Value) (h : Fr F a w) (hb : F b ∨ a.heap.size ≤ b) : Fr F a (((((((((((((((((((w.setCell ⟨b, 0, none⟩ (m0)).setCell ⟨b, 1, none⟩ (m1)).setCell ⟨b, 2, none⟩ (m2)).setCell ⟨b, 3, none⟩ (m3)).setCell ⟨b, 4, none⟩ (m4)).setCell ⟨b, 5, none⟩ (m5)).setCell ⟨b, 6, none⟩ (m6)).setCell ⟨b, 7, none⟩ (m7)).setCell ⟨b, 8, none⟩ (m8)).setCell ⟨b, 9, none⟩ (m9)).setCell ⟨b, 10, none⟩ (m10)).setCell ⟨b, 11, none⟩ (m11)).setCell ⟨b, 12, none⟩ (m12)).setCell ⟨b, 13, none⟩ (m13)).setCell ⟨b, 14, none⟩ (m14)).setCell ⟨b, 15, none⟩ (m15)).setCell ⟨b, 16, none⟩ (m16)).setCell ⟨b, 17, none⟩ (m17)).setCell ⟨b, 18, none⟩ (m18)) := by
  exact (((((((((((((((((((h.setCell hb _).setCell hb _).setCell hb _).setCell hb _).setCell hb _).setCell hb _).setCell hb _).setCell hb _).setCell hb _).setCell hb _).setCell hb _).setCell hb _).setCell hb _).setCell hb _).setCell hb _).setCell hb _).setCell hb _).setCell hb _).setCell hb _)

theorem set13 {T : TypeId} {fz : Nat × Nat} {w : World} {b : Nat} (m0 m1 m2 m3 m4 m5 m6 m7 m8 m9 m10 m11 m12 z0 z1 z2 z3 z4 z5 z6 z7 z8 z9 z10 z11 z12 z13 z14 z15 z16 z17 z18 : Value) (h : w.heap[b]? = some (.cells #[z0, z1, z2, z3, z4, z5, z6, z7, z8, z9, z10, z11, z12, z13, z14, z15, z16, z17, z18] T fz)) :
    (((((((((((((w.setCell ⟨b, 4, none⟩ (m0)).setCell ⟨b, 5, none⟩ (m1)).setCell ⟨b, 6, none⟩ (m2)).setCell ⟨b, 7, none⟩ (m3)).setCell ⟨b, 8, none⟩ (m4)).setCell ⟨b, 9, none⟩ (m5)).setCell ⟨b, 10, none⟩ (m6)).setCell ⟨b, 11, none⟩ (m7)).setCell ⟨b, 12, none⟩ (m8)).setCell ⟨b, 13, none⟩ (m9)).setCell ⟨b, 14, none⟩ (m10)).setCell ⟨b, 15, none⟩ (m11)).setCell ⟨b, 16, none⟩ (m12)).heap[b]? = some (.cells #[z0, z1, z2, z3, m0, m1, m2, m3, m4, m5, m6, m7, m8, m9, m10, m11, m12, z17, z18] T fz) := by
  have h0 : _ = some (Obj.cells #[z0, z1, z2, z3, m0, z5, z6, z7, z8, z9, z10, z11, z12, z13, z14, z15, z16, z17, z18] T fz) := heap_setCell_eq 4 m0 h
  have h1 : _ = some (Obj.cells #[z0, z1, z2, z3, m0, m1, z6, z7, z8, z9, z10, z11, z12, z13, z14, z15, z16, z17, z18] T fz) := heap_setCell_eq 5 m1 h0
  have h2 : _ = some (Obj.cells #[z0, z1, z2, z3, m0, m1, m2, z7, z8, z9, z10, z11, z12, z13, z14, z15, z16, z17, z18] T fz) := heap_setCell_eq 6 m2 h1
  have h3 : _ = some (Obj.cells #[z0, z1, z2, z3, m0, m1, m2, m3, z8, z9, z10, z11, z12, z13, z14, z15, z16, z17, z18] T fz) := heap_setCell_eq 7 m3 h2
  have h4 : _ = some (Obj.cells #[z0, z1, z2, z3, m0, m1, m2, m3, m4, z9, z10, z11, z12, z13, z14, z15, z16, z17, z18] T fz) := heap_setCell_eq 8 m4 h3
  have h5 : _ = some (Obj.cells #[z0, z1, z2, z3, m0, m1, m2, m3, m4, m5, z10, z11, z12, z13, z14, z15, z16, z17, z18] T fz) := heap_setCell_eq 9 m5 h4
  have h6 : _ = some (Obj.cells #[z0, z1, z2, z3, m0, m1, m2, m3, m4, m5, m6, z11, z12, z13, z14, z15, z16, z17, z18] T fz) := heap_setCell_eq 10 m6 h5
  have h7 : _ = some (Obj.cells #[z0, z1, z2, z3, m0, m1, m2, m3, m4, m5, m6, m7, z12, z13, z14, z15, z16, z17, z18] T fz) := heap_setCell_eq 11 m7 h6
  have h8 : _ = some (Obj.cells #[z0, z1, z2, z3, m0, m1, m2, m3, m4, m5, m6, m7, m8, z13, z14, z15, z16, z17, z18] T fz) := heap_setCell_eq 12 m8 h7
  have h9 : _ = some (Obj.cells #[z0, z1, z2, z3, m0, m1, m2, m3, m4, m5, m6, m7, m8, m9, z14, z15, z16, z17, z18] T fz) := heap_setCell_eq 13 m9 h8
  have h10 : _ = some (Obj.cells #[z0, z1, z2, z3, m0, m1, m2, m3, m4, m5, m6, m7, m8, m9, m10, z15, z16, z17, z18] T fz) := heap_setCell_eq 14 m10 h9
  have h11 : _ = some (Obj.cells #[z0, z1, z2, z3, m0, m1, m2, m3, m4, m5, m6, m7, m8, m9, m10, m11, z16, z17, z18] T fz) := heap_setCell_eq 15 m11 h10
  have h12 : _ = some (Obj.cells #[z0, z1, z2, z3, m0, m1, m2, m3, m4, m5, m6, m7, m8, m9, m10, m11, m12, z17, z18] T fz) := heap_setCell_eq 16 m12 h11
  exact h12

theorem set13F {F : Nat → Prop} {a w : World} {b : Nat} (m0 m1 m2 m3 m4 m5 m6 m7 m8 m9 m10 m11 m12 : Value) (h : Fr F a w) (hb : F b ∨ a.heap.size ≤ b) : Fr F a (((((((((((((w.setCell ⟨b, 4, none⟩ (m0)).setCell ⟨b, 5, none⟩ (m1)).setCell ⟨b, 6, none⟩ (m2)).setCell ⟨b, 7, none⟩ (m3)).setCell ⟨b, 8, none⟩ (m4)).setCell ⟨b, 9, none⟩ (m5)).setCell ⟨b, 10, none⟩ (m6)).setCell ⟨b, 11, none⟩ (m7)).setCell ⟨b, 12, none⟩ (m8)).setCell ⟨b, 13, none⟩ (m9)).setCell ⟨b, 14, none⟩ (m10)).setCell ⟨b, 15, none⟩ (m11)).setCell ⟨b, 16, none⟩ (m12)) := by
  exact (((((((((((((h.setCell hb _).setCell hb _).setCell hb _).setCell hb _).setCell hb _).setCell hb _).setCell hb _).setCell hb _).setCell hb _).setCell hb _).setCell hb _).setCell hb _).setCell hb _)

theorem set4 {T : TypeId} {fz : Nat × Nat} {w : World} {b : Nat} (m0 m1 m2 m3 z0 z1 z2 z3 z4 z5 z6 z7 z8 z9 z10 z11 z12 z13 z14 z15 z16 z17 z18 : Value) (h : w.heap[b]? = some (.cells #[z0, z1, z2, z3, z4, z5, z6, z7, z8, z9, z10, z11, z12, z13, z14, z15, z16, z17, z18] T fz)) :
    ((((w.setCell ⟨b, 0, none⟩ (m0)).setCell ⟨b, 1, none⟩ (m1)).setCell ⟨b, 2, none⟩ (m2)).setCell ⟨b, 3, none⟩ (m3)).heap[b]? = some (.cells #[m0, m1, m2, m3, z4, z5, z6, z7, z8, z9, z10, z11, z12, z13, z14, z15, z16, z17, z18] T fz) := by
  have h0 : _ = some (Obj.cells #[m0, z1, z2, z3, z4, z5, z6, z7, z8, z9, z10, z11, z12, z13, z14, z15, z16, z17, z18] T fz) := heap_setCell_eq 0 m0 h
  have h1 : _ = some (Obj.cells #[m0, m1, z2, z3, z4, z5, z6, z7, z8, z9, z10, z11, z12, z13, z14, z15, z16, z17, z18] T fz) := heap_setCell_eq 1 m1 h0
  have h2 : _ = some (Obj.cells #[m0, m1, m2, z3, z4, z5, z6, z7, z8, z9, z10, z11, z12, z13, z14, z15, z16, z17, z18] T fz) := heap_setCell_eq 2 m2 h1
  have h3 : _ = some (Obj.cells #[m0, m1, m2, m3, z4, z5, z6, z7, z8, z9, z10, z11, z12, z13, z14, z15, z16, z17, z18] T fz) := heap_setCell_eq 3 m3 h2
  exact h3

theorem set4F {F : Nat → Prop} {a w : World} {b : Nat} (m0 m1 m2 m3 : Value) (h : Fr F a w) (hb : F b ∨ a.heap.size ≤ b) : Fr F a ((((w.setCell ⟨b, 0, none⟩ (m0)).setCell ⟨b, 1, none⟩ (m1)).setCell ⟨b, 2, none⟩ (m2)).setCell ⟨b, 3, none⟩ (m3)) := by
  exact ((((h.setCell hb _).setCell hb _).setCell hb _).setCell hb _)

end Go.Sb
