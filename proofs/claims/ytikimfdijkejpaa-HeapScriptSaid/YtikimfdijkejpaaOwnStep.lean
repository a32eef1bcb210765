/- An append onto a slice of one's own as one step of a region that draws its order. -/
import Derived.Test.YtikimfdijkejpaaOwn
import Derived.Deep.RegionLaw
namespace Go.Sb
open Go.RowKit

theorem step_append_Own {P : Program} {ops : Array Oper} {o : Oper} {a : Act} {w : World} {K : Act → World → Prop} {Q : Exit → Act → World → Prop} {R : Prop}
    (hg : o.guard = none) (so xo : Operand) (t : TypeId) (hop : o.op = .call { callee := .builtin .append, args := #[so, xo], argTypes := #[t, t] })
    {F : Nat → Prop} (E : TypeId) (z : Value) (size bytes : Nat) (ht : P.underlying t = some (.slice E)) (hi : (P.info? E).map (fun i => (i.zero, i.size, i.bytes)) = some (some z, size, bytes))
    (hzs : z.cells.size = size) (hsz : 0 < size)
    (v : Value) (n : Nat) (xs : List Value) (hv : a.eval so = v) (hown : Own E size F w v n xs) (x : Value) (m : Nat) (news : List Value) (hx : a.eval xo = x) (hs : Src w x m size news)
    (h63 : n + m ≤ maxLen) (hbytes : ((n + m) + (n + m) / 4 + 192) * bytes ≤ 281474976710656)
    (hK : ∀ v' w', Own E size (ex F w) w' v' (n + m) (xs ++ news) → Fr (fun k => v.ownBlock = some k) w w' → (v' = .slice none 0 0 ↔ v = .slice none 0 0 ∧ m = 0) →
      (v'.ownBlock = v.ownBlock ∨ (Fr (fun _ => False) w w' ∧ v'.ownBlock = some w.heap.size)) → K (a.put o.dst v') w') :
    if Region.wanted o (yielded ops a.tmps) = true then Oper.wp P o a w K Q else R := by
  have hw : Region.wanted o (yielded ops a.tmps) = true := by simp [Region.wanted, hg]
  rw [if_pos hw]
  obtain ⟨i, hi0, hz0, hz1, hz2⟩ := info_parts hi
  obtain ⟨v', w', hrun, r1, r2, r3, r4⟩ := run_append_Own (P := P) w t o.type E i z size bytes ht hi0 hz0 hz1 hz2 hzs hsz v n xs hown x m news hs h63 hbytes
  unfold Oper.wp
  simp [execOp, hop, resolve, invoke, builtin, hv, hx, hrun, Result.andThen]
  exact hK _ _ r1 r2 r3 r4

end Go.Sb
