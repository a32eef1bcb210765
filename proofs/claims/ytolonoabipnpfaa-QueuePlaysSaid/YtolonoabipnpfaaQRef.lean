/- The document's queue: its two lists; what its methods answer and leave. -/
import Derived.Test.YtolonoabipnpfaaRows
import Derived.Test.YtolonoabipnpfaaOwnStep
import Derived.Test.YtolonoabipnpfaaHeld
import Derived.BigRegion
namespace Go.Proofs.Ytolonoabipnpfaa
open Go.RowKit Go.Sb

def iv (x : Int) : Value := .int .i64 x
def t1 (p : Int × Int) : Value := .int .i64 p.1
def t2 (p : Int × Int) : Value := .int .i64 p.2

/-- The document's queue at block br: tickets and things, in their order; so many joined. -/
structure RRep (F : Nat → Prop) (w : World) (br : Nat) (tv sv : Value) (g : Int) (L : List (Int × Int)) : Prop where
  head : w.heap[br]? = some (.cells #[tv, sv, .int .i64 g] 29 (0, 0))
  ts : Own 3 1 F w tv L.length (L.map t1)
  xs : Own 3 1 F w sv L.length (L.map t2)
  apart : Apart tv sv
  fb : F br

theorem RRep.mono {F G : Nat → Prop} {w : World} {br : Nat} {tv sv : Value} {g : Int} {L : List (Int × Int)} (h : RRep F w br tv sv g L) (hF : ∀ k, k < w.heap.size → F k → G k) : RRep G w br tv sv g L :=
  ⟨h.head, h.ts.mono hF, h.xs.mono hF, h.apart, hF _ (lt_of_heap h.head) h.fb⟩

theorem RRep.of {F : Nat → Prop} {w w' : World} {br : Nat} {tv sv : Value} {g : Int} {L : List (Int × Int)} (h : RRep F w br tv sv g L) (hk : ∀ k, k < w.heap.size → F k → w'.heap[k]? = w.heap[k]?) : RRep F w' br tv sv g L :=
  ⟨(hk _ (lt_of_heap h.head) h.fb).trans h.head, h.ts.of (fun k hl hb => hk k hl (h.ts.block k hb).1), h.xs.of (fun k hl hb => hk k hl (h.xs.block k hb).1), h.apart, h.fb⟩

theorem RRep.fr {F G : Nat → Prop} {w w' : World} {br : Nat} {tv sv : Value} {g : Int} {L : List (Int × Int)} (h : RRep F w br tv sv g L) (hf : Fr G w w') (hd : ∀ k, k < w.heap.size → F k → ¬ G k) : RRep F w' br tv sv g L :=
  h.of (fun k hk hF => hf.block k hk (hd k hk hF))

/-- one value just laid -/
theorem src_val (w : World) (u : Value) (T : TypeId) (hu : u.oneCell' = true) : Src (w.alloc (.cells #[u] T)) (.slice (some ⟨w.heap.size, 0, none⟩) 1 1) 1 1 [u] := by
  refine ⟨by simp, fun x hx => ?_, .inr ⟨_, 1, rfl, fun j x hx => ?_⟩⟩
  · simp only [List.mem_singleton] at hx
    subst hx; exact hu
  · match j with
    | 0 =>
      simp only [List.getElem?_cons_zero, Option.some.injEq] at hx
      subst hx
      exact cell_is (heap_alloc_eq w (.cells #[u] T)) 0 rfl
    | j + 1 => simp at hx

theorem src_at (w : World) (n : Nat) (u : Value) (T : TypeId) (hu : u.oneCell' = true) (hn : n = w.heap.size) : Src (w.alloc (.cells #[u] T)) (.slice (some ⟨n, 0, none⟩) 1 1) 1 1 [u] := by
  subst hn
  exact src_val w u T hu

theorem RRep.drew {F : Nat → Prop} {w : World} {br : Nat} {tv sv : Value} {g : Int} {L : List (Int × Int)} (h : RRep F w br tv sv g L) : RRep F w.drew br tv sv g L := h.of (fun _ _ _ => rfl)

theorem Try.info3 : (Try.prog.info? 3).map (fun i => (i.zero, i.size, i.bytes)) = some (some (.int .i64 0), 1, 8) := by kernel_rfl

set_option maxRecDepth 100000 in
set_option maxHeartbeats 1000000 in
theorem rjoin_any (F : Nat → Prop) (br : Nat) (tv sv : Value) (g x : Int) (L : List (Int × Int)) (w : World) (h : RRep F w br tv sv g L) (hg0 : 0 ≤ g) (hg1 : g ≤ 4398046511104) (hL : L.length ≤ 4398046511104) :
    Calls Try.prog 10 #[.pointer (some ⟨br, 0, none⟩), .int .i64 x] w fun e w' => e = .returned (.int .i64 (g + 1)) ∧
      (∃ tv' sv', RRep (ex F w) w' br tv' sv' (g + 1) (L ++ [(g + 1, x)])) ∧ Fr F w w' := by
  have c2 : w.cell? ⟨br, 2, none⟩ = some (.int .i64 g) := cell_is h.head 2 rfl
  have f2 := frozen_of h.head 2
  have hh1 := heap_setCell_eq 2 (.int .i64 (g + 1)) h.head
  have hu1 : RRep F (w.setCell ⟨br, 2, none⟩ (.int .i64 (g + 1))) br tv sv (g + 1) L :=
    ⟨by simpa using hh1, h.ts.of (fun k _ hb => heap_setCell_ne _ _ _ _ (fun e => own_ne h.head (by decide) h.ts (by rw [hb, e]))), h.xs.of (fun k _ hb => heap_setCell_ne _ _ _ _ (fun e => own_ne h.head (by decide) h.xs (by rw [hb, e]))), h.apart, h.fb⟩
  have hf1 : Fr F w (w.setCell ⟨br, 2, none⟩ (.int .i64 (g + 1))) := (Fr.refl _ _).setCell (.inl h.fb) _
  have hs1 : (w.setCell ⟨br, 2, none⟩ (.int .i64 (g + 1))).heap.size = w.heap.size := by simp
  have HU := Lib.hid hu1
  have HF1 := Lib.hid hf1
  have HS1 := Lib.hid hs1
  have HLL := Lib.hid hL
  clear h hh1 hu1 hf1 hs1 hL
  go_enter Try.func10, Try.ntmps10
  go_wp2_with (fail)
  generalize hw1 : w.setCell ⟨br, 2, none⟩ (.int .i64 (g + 1)) = w1 at *
  clear hw1 c2 f2
  have c0 : w1.cell? ⟨br, 0, none⟩ = some tv := cell_is HU.out.head 0 rfl
  have c2 : w1.cell? ⟨br, 2, none⟩ = some (.int .i64 (g + 1)) := cell_is HU.out.head 2 rfl
  have hno := own_ne (R := 3) HU.out.head (by decide) HU.out.ts
  have HD := Lib.hid HU.out.drew
  have hbl : br < w1.heap.size := lt_of_heap HU.out.head
  go_region_law (refine step_append_Own rfl _ _ 27 rfl 3 (.int .i64 0) 1 8 Try.underlying27 Try.info3 rfl (by decide) tv L.length (L.map t1) rfl (HD.out.ts.alloc _) (.slice (some ⟨w1.drew.heap.size, 0, none⟩) 1 1) 1 [.int .i64 (g + 1)] rfl (src_val w1.drew (.int .i64 (g + 1)) 3 rfl) (by have := HLL.out; unfold maxLen; omega) (by have := HLL.out; omega) ?_; intro v3 w3 hv3 hf3 hn3 hd3; have hh3 : w3.heap[br]? = some (.cells #[tv, sv, .int .i64 (g + 1)] 29 (0, 0)) := hf3.get ((heap_alloc_lt _ _ _ (lt_of_heap HD.out.head)).trans HD.out.head) hno; have hc3 : w3.cell? ⟨br, 0, none⟩ = some tv := cell_is hh3 0 rfl; have hc4 : w3.cell? ⟨br, 1, none⟩ = some sv := cell_is hh3 1 rfl; have hc5 : w3.cell? ⟨br, 2, none⟩ = some (.int .i64 (g + 1)) := cell_is hh3 2 rfl; have hz3 := frozen_of hh3 0; obtain ⟨g3, k3, rfl, _, _⟩ := hv3.some (by omega); have HX := Lib.hid (row_grown (F := ex F w1) (j := 0) HD.out.head (by decide) (HD.out.ts.mono (fun _ _ h => .inl h)) (HD.out.xs.mono (fun _ _ h => .inl h)) HD.out.apart (fun k hk => .inr hk) (hv3.mono (fun k _ h => h.elim (fun h => .inl (.inl h)) .inr)) hf3 hd3); clear hv3 hf3 hn3 hd3 hh3)
  all_goals
    go_wp2_with (at_builtin; refine wpList_append_Own _ rfl _ _ 27 rfl 3 (.int .i64 0) 1 8 Try.underlying27 Try.info3 rfl (by decide) sv L.length (L.map t2) rfl (HX.out.2.2.1.alloc _) (.slice (some ⟨w3.heap.size, 0, none⟩) 1 1) 1 [.int .i64 x] rfl (src_at _ _ (.int .i64 x) 3 rfl (by simp)) (by have := HLL.out; unfold maxLen; omega) (by have := HLL.out; omega) ?_; intro v5 w5 hv5 hf5 hn5 hd5; obtain ⟨g5, k5, rfl, _, _⟩ := hv5.some (by omega); have hno5 := own_ne HX.out.1 (by decide) HX.out.2.2.1; have hh5 := hf5.get ((heap_alloc_lt _ _ _ (by have := lt_of_heap HX.out.1; exact this)).trans HX.out.1) hno5; have hc6 : w5.cell? ⟨br, 1, none⟩ = some sv := cell_is hh5 1 rfl; have hc7 : w5.cell? ⟨br, 2, none⟩ = some (.int .i64 (g + 1)) := cell_is hh5 2 rfl; have hz5 := frozen_of hh5 1; have HY := Lib.hid (row_grown (F := ex F w1) (j := 1) HX.out.1 (by decide) HX.out.2.2.1 HX.out.2.1 HX.out.2.2.2.1.symm (fun k hk => .inr (Nat.le_trans HX.out.2.2.2.2.size hk)) (hv5.mono (fun k _ h => h.elim (fun h => .inl h) .inr)) hf5 hd5); clear hv5 hf5 hn5 hd5 hh5)
    go_ret
    obtain ⟨x1, x2, x3, x4, x5⟩ := HX.out
    obtain ⟨y1, y2, y3, y4, y5⟩ := HY.out
    have hfr : Fr F w1.drew _ := (x5.mono (F' := F) (fun k _ hk => hk.elim (fun e => e ▸ HU.out.fb) (fun hb => (HU.out.ts.block k hb).1))).trans y5 (fun k hk h => h.elim (fun e => e ▸ HU.out.fb) (fun hb => (HU.out.xs.block k hb).1))
    refine ⟨rfl, ⟨_, _, y1, ?_, ?_, y4.symm, .inl HU.out.fb⟩, HF1.out.drew.trans hfr (fun _ _ h => h)⟩
    · rw [List.length_append, List.map_append]
      exact y3.mono (fun k _ h => h.imp id (fun h => by rw [HS1.out] at h; exact h))
    · rw [List.length_append, List.map_append]
      exact y2.mono (fun k _ h => h.imp id (fun h => by rw [HS1.out] at h; exact h))

end Go.Proofs.Ytolonoabipnpfaa
