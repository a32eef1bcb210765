/- A region of a round that draws its order and writes: its walk outside rounds serves. -/
import Derived.Test.YtolonoabipnpfaaRangeNext
import Derived.Deep.RegionHeld3
namespace Go.Sb
open Go.RowKit

theorem rowsIn_of {n : Nat} {P : Program} {row : String} {args : Array Value} {w : World} {R : Value → World → Prop} (h : Rows P row args w R) : RowsIn Fence.wide n P row args w R :=
  fun c cs _ => let ⟨v, w', r, s⟩ := h c cs; ⟨v, w', r, stepsIn_wide.2 s⟩

theorem wpIn_of_wp {P : Program} {o : Oper} {a : Act} {w : World} {K : Act → World → Prop} {Q : Exit → Act → World → Prop} (hd : ∀ c, o.op ≠ .defer c) (h : Oper.wp P o a w K Q) : Oper.wpIn Fence.wide 0 P o a w K Q := by
  unfold Oper.wp at h
  unfold Oper.wpIn
  refine ⟨fun _ _ => trivial, ?_⟩
  rw [Oper.semAt_eq _ _ _ hd]
  generalize (execOp a.eval o).run P w = r at *
  cases r with
  | ok x w' =>
    cases x <;> simp only [Oper.upon, Oper.uponIn] at h ⊢ <;>
      first
        | exact h
        | exact ⟨fun h => by simp [Fence.wide] at h, callsIn_wide.2 h⟩
        | exact ⟨fun h => by simp [Fence.wide] at h, rowsIn_of h⟩
  | halt x w' => cases x <;> simp only [Oper.upon, Oper.uponIn] at h ⊢ <;> exact h

theorem wpOpsIn_of_wpOps {P : Program} {ll : List Oper} {Q : Exit → Act → World → Prop} (hnd : noDefer ll = true) (hl : ¬ LetsOut Q) :
    ∀ (is : List Nat) (a : Act) (w : World), wpOps P ll.toArray Q is a w → wpOpsIn Fence.wide 0 P ll.toArray Q is a w
  | [], _, _, h => h
  | i :: rest, a, w, h => by
    have ih := wpOpsIn_of_wpOps (P := P) hnd hl rest
    unfold wpOps at h
    unfold wpOpsIn
    cases ho : ll.toArray[i]? with
    | none =>
      rw [ho] at h
      exact ih _ _ h
    | some o =>
      rw [ho] at h
      have hno := noDefer_at hnd (by simpa using ho)
      simp only at h ⊢
      by_cases hw : Region.wanted o (yielded ll.toArray a.tmps) = true
      · rw [if_pos hw] at h ⊢
        rcases h with h | h
        · exact Oper.wpIn_mono ih (wpIn_of_wp hno h)
        · exact absurd h.2 hl
      · rw [if_neg hw] at h ⊢
        exact ⟨fun _ _ => trivial, ih _ _ h⟩

/-- The beginning of such a walk. -/
theorem wpIn_region_held_round {P : Program} {id l : Nat} {Q : Exit → Act → World → Prop} {a : Act} {w : World} {ll : List Oper} {S : World → Prop} (hm : P.follows .mixedOrders = true) (hnd : noDefer ll = true) (hl : ¬ LetsOut Q) (hS : S w.drew)
    (h : S w.drew → wpAnyH P .any ll.toArray Q S ll.toArray.size (Array.replicate ll.toArray.size false) a w.drew) : (Code.region id ll.toArray true).wpIn (Fence.wide.inRound l) 0 P Q a w := by
  refine wpIn_region_draw fun t => wpOpsIn_inRound hnd _ _ _ (wpOpsIn_of_wpOps hnd hl _ _ _ ?_)
  simp only [Region.schedule, hm, Bool.true_or, if_true]
  exact wpAny_sound _ t _ a _ (wpAny_of_held _ _ _ _ (h hS))

end Go.Sb
