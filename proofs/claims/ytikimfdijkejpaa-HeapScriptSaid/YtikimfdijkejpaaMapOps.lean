/- The operations on maps with whole-number keys, at the walk's own places. -/
import Derived.Test.YtikimfdijkejpaaBase
import Derived.Maps.OwnOps
import Derived.Maps.OwnSet
namespace Go.Sb
open Go.RowKit

section
variable {P : Program} (w : World) {ops : Array Oper} {rest : List Oper} {o : Oper} {a : Act} {Q : Exit → Act → World → Prop}

theorem wpList_mapUpdate_new (hg : o.guard = none) (mo xo vo : Operand) (t : TypeId) (hop : o.op = Op.mapUpdate t mo xo vo)
    (k e : TypeId) (ht : P.underlying t = some (.map k e)) (hk : P.underlying k = some (.int .i64)) (bm : Nat) (m : List (Int × Value)) (x : Int) (v : Value)
    (hm : a.eval mo = .map (some bm)) (hx : a.eval xo = .int .i64 x) (hv : a.eval vo = v) (hown : HasMap w bm m) (hf : x ∉ m.map Prod.fst)
    (hK : ∀ o', IsMap o' (m ++ [(x, v)]) → wpList P ops Q rest (a.put o.dst undef) (w.putObj bm o')) : wpList P ops Q (o :: rest) a w := by
  refine wpList_plain hg fun K' hK' => ?_
  obtain ⟨o', ho, hrun⟩ := run_mapUpdate_new (P := P) ht hk hown x v hf
  unfold Oper.wp
  simp [execOp, hop, hm, hx, hv, hrun, Result.andThen]
  exact hK' _ _ (hK o' ho)

theorem wpList_mapUpdate_old (hg : o.guard = none) (mo xo vo : Operand) (t : TypeId) (hop : o.op = Op.mapUpdate t mo xo vo)
    (k e : TypeId) (ht : P.underlying t = some (.map k e)) (hk : P.underlying k = some (.int .i64)) (bm : Nat) (as bs : List (Int × Value)) (x : Int) (u v : Value)
    (hm : a.eval mo = .map (some bm)) (hx : a.eval xo = .int .i64 x) (hv : a.eval vo = v) (hown : HasMap w bm (as ++ (x, u) :: bs)) (hf : x ∉ as.map Prod.fst)
    (hK : ∀ o', IsMap o' (as ++ (x, v) :: bs) → wpList P ops Q rest (a.put o.dst undef) (w.putObj bm o')) : wpList P ops Q (o :: rest) a w := by
  refine wpList_plain hg fun K' hK' => ?_
  obtain ⟨o', ho, hrun⟩ := run_mapUpdate_old (P := P) ht hk hown x u v rfl hf
  unfold Oper.wp
  simp [execOp, hop, hm, hx, hv, hrun, Result.andThen]
  exact hK' _ _ (hK o' ho)

theorem wpList_lookup_none (hg : o.guard = none) (mo xo : Operand) (t : TypeId) (ok : Bool) (hop : o.op = Op.lookup t mo xo ok)
    (k e : TypeId) (ht : P.underlying t = some (.map k e)) (hk : P.underlying k = some (.int .i64)) {z : Value} (hz : (zeroValue e).run P w = .ok z w) (bm : Nat) (m : List (Int × Value)) (x : Int)
    (hm : a.eval mo = .map (some bm)) (hx : a.eval xo = .int .i64 x) (hown : HasMap w bm m) (hf : x ∉ m.map Prod.fst)
    (hK : wpList P ops Q rest (a.put o.dst (if ok then .tuple #[z, .bool false] else z)) w) : wpList P ops Q (o :: rest) a w := by
  refine wpList_plain hg fun K' hK' => ?_
  have hrun := run_lookup_none (P := P) ht hk hz hown x ok hf
  unfold Oper.wp
  simp [execOp, hop, hm, hx, hrun, Result.andThen]
  exact hK' _ _ (by simpa using hK)

theorem wpList_lookup_some (hg : o.guard = none) (mo xo : Operand) (t : TypeId) (ok : Bool) (hop : o.op = Op.lookup t mo xo ok)
    (k e : TypeId) (ht : P.underlying t = some (.map k e)) (hk : P.underlying k = some (.int .i64)) (bm : Nat) (as bs : List (Int × Value)) (x : Int) (v : Value)
    (hm : a.eval mo = .map (some bm)) (hx : a.eval xo = .int .i64 x) (hown : HasMap w bm (as ++ (x, v) :: bs)) (hf : x ∉ as.map Prod.fst)
    (hK : wpList P ops Q rest (a.put o.dst (if ok then .tuple #[v, .bool true] else v)) w) : wpList P ops Q (o :: rest) a w := by
  refine wpList_plain hg fun K' hK' => ?_
  have hrun := run_lookup_some (P := P) ht hk hown x v ok rfl hf
  unfold Oper.wp
  simp [execOp, hop, hm, hx, hrun, Result.andThen]
  exact hK' _ _ (by simpa using hK)

theorem wpList_delete_old (hg : o.guard = none) (mo xo : Operand) (t kt : TypeId) (hop : o.op = Op.call { callee := .builtin .delete, args := #[mo, xo], argTypes := #[t, kt] })
    (k e : TypeId) (ht : P.underlying t = some (.map k e)) (hk : P.underlying k = some (.int .i64)) (bm : Nat) (as bs : List (Int × Value)) (x : Int) (u : Value)
    (hm : a.eval mo = .map (some bm)) (hx : a.eval xo = .int .i64 x) (hown : HasMap w bm (as ++ (x, u) :: bs)) (hf : x ∉ as.map Prod.fst)
    (hK : ∀ o', IsMap o' (as ++ bs) → wpList P ops Q rest (a.put o.dst (.tuple #[])) (w.putObj bm o')) : wpList P ops Q (o :: rest) a w := by
  refine wpList_plain hg fun K' hK' => ?_
  obtain ⟨o', ho, hrun⟩ := run_delete_old (P := P) ht hk kt o.type hown x u rfl hf
  unfold Oper.wp
  simp [execOp, hop, resolve, invoke, builtin, hm, hx, hrun, Result.andThen]
  exact hK' _ _ (hK o' ho)

/-- A guard: it fits a clear of one argument alone. -/
theorem clear_guard (mo : Operand) (t : TypeId) (_hop : o.op = Op.call { callee := .builtin .clear, args := #[mo], argTypes := #[t] }) (h : wpList P ops Q (o :: rest) a w) : wpList P ops Q (o :: rest) a w := h

theorem wpList_clear_map (hg : o.guard = none) (mo : Operand) (t : TypeId) (hop : o.op = Op.call { callee := .builtin .clear, args := #[mo], argTypes := #[t] })
    (k e : TypeId) (ht : P.underlying t = some (.map k e)) (bm : Nat) (m : List (Int × Value))
    (hm : a.eval mo = .map (some bm)) (hown : HasMap w bm m)
    (hK : ∀ o', IsMap o' [] → wpList P ops Q rest (a.put o.dst (.tuple #[])) (w.putObj bm o')) : wpList P ops Q (o :: rest) a w := by
  refine wpList_plain hg fun K' hK' => ?_
  obtain ⟨o', ho, hrun⟩ := run_clear_map (P := P) ht o.type hown
  unfold Oper.wp
  simp [execOp, hop, resolve, invoke, builtin, hm, hrun, Result.andThen]
  exact hK' _ _ (hK o' ho)

theorem wpList_len_map (hg : o.guard = none) (mo : Operand) (t : TypeId) (hop : o.op = Op.call { callee := .builtin .len, args := #[mo], argTypes := #[t] })
    (k e : TypeId) (ht : P.underlying t = some (.map k e)) (bm : Nat) (m : List (Int × Value))
    (hm : a.eval mo = .map (some bm)) (hown : HasMap w bm m)
    (hK : wpList P ops Q rest (a.put o.dst (.int .i64 m.length)) w) : wpList P ops Q (o :: rest) a w := by
  refine wpList_plain hg fun K' hK' => ?_
  have hrun := run_len_map (P := P) ht o.type hown
  unfold Oper.wp
  simp [execOp, hop, resolve, invoke, builtin, hm, hrun, Result.andThen]
  exact hK' _ _ hK
end
end Go.Sb
