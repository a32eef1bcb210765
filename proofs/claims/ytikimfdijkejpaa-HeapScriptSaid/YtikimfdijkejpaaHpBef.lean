/- What a heap may count on of the order that it was handed. -/
import Derived.Test.YtikimfdijkejpaaHRep
import Derived.Test.YtikimfdijkejpaaHpPlain
namespace Go.Sb
open Go.RowKit

/-- The function fid, with what it has captured, answers bf of two things; it may write the blocks Sb alone, of which its state St is; each call counts. -/
structure BSpec {X : Type} (P : Program) (fid : Nat) (caps : Array Value) (V : X → Value) (okx : X → Prop) (bf : X → X → Bool) (St : Nat → World → Prop) (Sb : Nat → Prop) : Prop where
  call : ∀ (x y : X) (c : Nat) (W : World), okx x → okx y → St c W → Calls P fid (#[V x, V y] ++ caps) W fun e W' => e = .returned (.bool (bf x y)) ∧ Fr Sb W W' ∧ St (c + 1) W'
  ent : ∀ args w, (callFunc fid args).run P w = .ok (.enter fid args) w
  stab : ∀ (c : Nat) (W W' : World) (G : Nat → Prop), St c W → Fr G W W' → (∀ k, Sb k → ¬ G k) → St c W'

end Go.Sb
