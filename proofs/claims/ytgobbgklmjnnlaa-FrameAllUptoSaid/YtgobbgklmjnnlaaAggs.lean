/- A whole array or struct stored into a block of its own, at the operation. -/
import Derived.Test.YtgobbgklmjnnlaaBase
namespace Go.Sb
open Go.RowKit

theorem heap_alloc_at (w : World) (o : Obj) (n : Nat) (hn : n = w.heap.size) : (w.alloc o).heap[n]? = some o := by
  subst hn
  exact heap_alloc_eq w o

theorem Fr.setRow {F : Nat → Prop} {a w : World} (h : Fr F a w) {g : Nat} (hp : F g ∨ a.heap.size ≤ g) (cs : Array Value) : Fr F a (w.setRow g cs) :=
  h.trans (F' := fun k => k = g) ⟨rfl, rfl, rfl, by simp, fun k _ hn => setRow_other _ _ _ _ hn⟩
    (fun i hi hf => by
      subst hf
      exact hp.elim id (fun hle => absurd hle (by omega)))

section
variable {P : Program} (w : World) {ops : Array Oper} {rest : List Oper} {o : Oper} {a : Act} {Q : Exit → Act → World → Prop}

theorem run_storeVar_agg {t T : TypeId} {g : Nat} {old cs : Array Value} (hT : (P.info? t).map (·.size) = some cs.size) (hg : w.heap[g]? = some (.cells old T (0, 0))) (hsz : old.size = cs.size)
    (h1 : ∀ v ∈ cs.toList, v.oneCell' = true) : (storeVar t ⟨g, 0, none⟩ (.agg cs)).run P w = .ok () (w.setRow g cs) := by
  obtain ⟨i, hi, hs⟩ := Option.map_eq_some_iff.1 hT
  have hst := run_storeCells_at P g 0 T cs.toList 0 old w hg (by simp [hsz]) h1
  have hd : List.drop cs.size old.toList = [] := by rw [List.drop_eq_nil_iff]; simp [hsz]
  simp [storeVar, sizeOf, typeInfo, hi, hs, Value.cells, hst, hd, Result.andThen]

theorem wpList_store_agg (hgd : o.guard = none) (ao vo : Operand) (t : TypeId) (hop : o.op = Op.store t ao vo) (g : Nat) (T : TypeId) (old cs : Array Value)
    (ha : a.eval ao = .pointer (some ⟨g, 0, none⟩)) (hv : a.eval vo = .agg cs) (hT : (P.info? t).map (·.size) = some cs.size) (hg : w.heap[g]? = some (.cells old T (0, 0))) (hsz : old.size = cs.size)
    (h1 : ∀ v ∈ cs.toList, v.oneCell' = true)
    (hK : ∀ w', w'.heap[g]? = some (.cells cs T (0, 0)) → Fr (fun k => k = g) w w' → wpList P ops Q rest (a.put o.dst undef) w') : wpList P ops Q (o :: rest) a w := by
  refine wpList_plain hgd fun K' hK' => ?_
  have hrun := run_storeVar_agg (P := P) w hT hg hsz h1
  unfold Oper.wp
  simp [execOp, hop, ha, hv, Instr.storeAt, Instr.sureAddr, hrun, Result.andThen]
  exact hK' _ _ (hK _ (setRow_heap w g old cs T (0, 0) hg) (Fr.setRow (F := fun k => k = g) (Fr.refl _ _) (.inl rfl) _))

theorem store_guard (ao vo : Operand) (t : TypeId) (_hop : o.op = Op.store t ao vo) (h : wpList P ops Q (o :: rest) a w) : wpList P ops Q (o :: rest) a w := h
end
end Go.Sb
