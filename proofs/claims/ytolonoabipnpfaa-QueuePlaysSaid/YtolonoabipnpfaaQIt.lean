/- The iterator of a queue: what its two loops keep. -/
import Derived.Test.YtolonoabipnpfaaQRep
import Derived.Test.YtolonoabipnpfaaOwn
import Derived.Test.YtolonoabipnpfaaRangeNext
namespace Go.Sb
open Go.RowKit

/-- Blocks of more than one place lie as they lay. -/
def KeepBuf (T : TypeId) (W W' : World) : Prop := W.heap.size ≤ W'.heap.size ∧ ∀ (k : Nat) (cs : Array Value), W.heap[k]? = some (.cells cs T (0, 0)) → 4 < cs.size → W'.heap[k]? = some (.cells cs T (0, 0))

theorem KeepBuf.refl (T : TypeId) (W : World) : KeepBuf T W W := ⟨Nat.le_refl _, fun _ _ h _ => h⟩
theorem KeepBuf.trans {T : TypeId} {A B C : World} (h : KeepBuf T A B) (k : KeepBuf T B C) : KeepBuf T A C := ⟨Nat.le_trans h.1 k.1, fun i cs hi hs => k.2 i cs (h.2 i cs hi hs) hs⟩
theorem KeepBuf.putObj {T : TypeId} (W : World) (l : Nat) (o o' : Obj) (hl : W.heap[l]? = some o) (ho : o.isCells = false) : KeepBuf T W (W.putObj l o') :=
  ⟨by simp, fun k cs hk _ => by
    have : k ≠ l := fun e => by
      subst e
      rw [hl] at hk
      cases hk
      simp [Obj.isCells] at ho
    rw [heap_putObj_ne _ _ _ _ this]
    exact hk⟩
theorem KeepBuf.of_fr {T : TypeId} {F : Nat → Prop} {W W' : World} (h : Fr F W W') (hF : ∀ (k : Nat) (cs : Array Value), F k → W.heap[k]? = some (.cells cs T (0, 0)) → cs.size ≤ 4) : KeepBuf T W W' :=
  ⟨h.size, fun k cs hk hs => h.get hk (fun hf => absurd (hF k cs hf hk) (by omega))⟩

def nv (n : Nd) : Int × Value := (n.t, n.v)

/-- The four cells of a place in the iterator's own list. -/
def p4 (n : Nd) : List Value := [.int .i64 n.t, n.v, .pointer none, .pointer none]

theorem cell_fr {F : Nat → Prop} {a b : World} (h : Fr F a b) {p : Addr} {u : Value} (hc : a.cell? p = some u) (hn : ¬ F p.block) : b.cell? p = some u := by
  rw [World.cell?_of_block (w := a) (h.block _ (World.block_lt_of_cell? a _ hc) hn)]
  exact hc

theorem grown_of {a b : World} (h : Fr (fun _ => False) a b) : a.grownBy b none := ⟨h.os, h.tape, h.output, h.size, fun k hk _ => h.block k hk id⟩

def lenV : Value → Nat
  | .slice _ n _ => n
  | _ => 0

theorem lenV_own {T : TypeId} {size n : Nat} {F : Nat → Prop} {w : World} {v : Value} {xs : List Value} (h : Own T size F w v n xs) : lenV v = n := by
  rcases h.shape with ⟨rfl, rfl, _⟩ | ⟨g, cap, rfl, _⟩ <;> rfl

theorem src_p4 (w : World) (t : Int) (v : Value) (T : TypeId) (hv : v.oneCell' = true) (b : Nat) : Src (w.alloc (.cells #[.int .i64 t, v, .pointer none, .pointer none] T)) (.slice (some ⟨w.heap.size, 0, none⟩) 1 1) 1 4 (p4 ⟨b, t, v⟩) := by
  refine ⟨rfl, ?_, .inr ⟨_, _, rfl, ?_⟩⟩
  · intro u hu
    simp only [p4, List.mem_cons, List.not_mem_nil, or_false] at hu
    rcases hu with rfl | rfl | rfl | rfl
    · rfl
    · exact hv
    · rfl
    · rfl
  · intro j u hj
    have hb : (w.alloc (.cells #[.int .i64 t, v, .pointer none, .pointer none] T)).heap[w.heap.size]? = some (.cells #[.int .i64 t, v, .pointer none, .pointer none] T (0, 0)) := heap_alloc_eq w _
    have ha : (⟨w.heap.size, 0, none⟩ : Addr).add j = ⟨w.heap.size, j, none⟩ := by simp [Addr.add]; exact fun h => h.symm
    rw [ha, cell_of hb]
    simpa [p4] using hj

theorem p4_at : ∀ (us : List Nd) (k : Nat) (n : Nd), us[k]? = some n → ∀ j, j < 4 → (us.flatMap p4)[k * 4 + j]? = (p4 n)[j]?
  | [], k, n, h, _, _ => by simp at h
  | u :: us, 0, n, h, j, hj => by
    simp at h
    subst h
    rw [List.flatMap_cons, List.getElem?_append_left (by simp [p4]; omega)]
    simp
  | u :: us, k + 1, n, h, j, hj => by
    have ih := p4_at us k n (by simpa using h) j hj
    rw [List.flatMap_cons, List.getElem?_append_right (by simp [p4]; omega), ← ih]
    congr 1
    simp [p4]
    omega

/-- The copied places, in the block of the iterator's list. -/
theorem buf_cells {T : TypeId} {F : Nat → Prop} {w : World} {g c : Nat} {us : List Nd} (h : Own T 4 F w (.slice (some ⟨g, 0, none⟩) us.length c) us.length (us.flatMap p4)) :
    ∃ cur : Array Value, w.heap[g]? = some (.cells cur T (0, 0)) ∧ us.length * 4 ≤ cur.size ∧ ∀ k n, us[k]? = some n → ∀ j, j < 4 → cur[k * 4 + j]? = (p4 n)[j]? := by
  obtain ⟨h1, h2⟩ := h
  rcases h2 with ⟨hv, _⟩ | ⟨g', cap, cur, hv, hf, hg, hn, hm, hs, ht⟩
  · cases hv
  · cases hv
    refine ⟨cur, hg, by omega, fun k n hk j hj => ?_⟩
    have hkl := (List.getElem?_eq_some_iff.1 hk).1
    rw [← p4_at us k n hk j hj, ← ht, List.getElem?_take, if_pos (by omega)]
    simp

/-- The second loop: k places have been given. -/
def ItRel2 {α : Type} (T : TypeId) (wA : World) (n : Nat) (xs : List α) (J : List α → World → Prop) (i : Value) (wr : World) : Prop :=
  ∃ k : Nat, i = .int .i64 (k : Int) ∧ k ≤ n ∧ J (xs.take k) wr ∧ ((k = 0 ∧ wr = wA) ∨ (1 ≤ k ∧ KeepBuf T wA wr))

theorem take_snoc {α : Type} {xs : List α} {k : Nat} {x : α} (h : xs[k]? = some x) : xs.take k ++ [x] = xs.take (k + 1) := by
  rw [List.take_add_one, h]
  rfl
theorem take_next {α : Type} {xs : List α} {k : Nat} {x : α} (h : xs[k]? = some x) : xs.take k ++ [x] <+: xs := by
  rw [take_snoc h]
  exact List.take_prefix _ _

/-- The first loop: so many places have been copied. -/
def ItRel (T : TypeId) (w : World) (ls : List Nd) (lv p : Value) (wr : World) : Prop :=
  ∃ us rest, ls = us ++ rest ∧ p = .pointer (hd rest) ∧ Own T 4 (fun k => w.heap.size ≤ k) wr lv us.length (us.flatMap p4) ∧ Fr (fun _ => False) w wr

theorem ItRel.start (T : TypeId) (w : World) (ls : List Nd) : ItRel T w ls (.slice none 0 0) (.pointer (hd ls)) w := ⟨[], ls, rfl, rfl, Own.nil _ _ _ _, Fr.refl _ _⟩

end Go.Sb
