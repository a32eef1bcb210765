/-
  No cell of these rows narrows 'for every input' (looked for: loops, veiled, ifaces, maps, wideKeys, modest, calm, conditions, laid).
  DERIVED. THE GIVEN ROWS OF THIS SEAT. 4 by the template 'for every input the law returns true; each argument reads behind the call as it read before'; 0 by the template 'total and deterministic' (their statements: YtolonoabipnpfaaTotals.lean).
  GIVEN WITH THE SEED: the statements are not yours to turn. If you find one false, say at which input.
  Laid BY PROGRAM, IN A SANDBOX (cutbox-rows.mjs): the forced cells as the released guide's own fill.sh prints them over the translation fcaf37f0ce2b2d1f… (all of the seat's roots in one cut). By AI agents, Wed Nov 11 2026. No macro, syntax, notation, axiom, sorry.
-/
import Derived.Test.YtolonoabipnpfaaChecked
import GoSem.Claim
import GoSem.ClaimJoined
import GoSem.ClaimMapViews
import Derived.JoinedTies
import Derived.KernelRfl
namespace Go.Proofs.Ytolonoabipnpfaa
/- THE CELL 'sum', in the pinned program and in every row, IS THE sha256 OF THE DUMP (.gsa) THAT YtolonoabipnpfaaProg.lean LOADS. Nothing in Lean hashes anything: it is a label: what it is worth is what the hold of that sum in a sandbox is worth. -/
noncomputable def Try.pinned : Pinned := { name := "ytolonoabipnpfaa", sum := "fcaf37f0ce2b2d1fb191588784dca9e51fb5d087b5bd961428669cbcee88df90", checked := Try.checked }
namespace Rows
def none {H : Type} : Left H := { results := [], args := [] }

/-- 'stintlaw04.QueueTexts': WHATEVER THE INPUT: true; the input reads as it did. -/
def queueTextsSpec : ChangeSpec := { name := "queueTexts", fn := fun _ => fun
  | [d] => { results := [.lit (.bool true)], args := [d] }
  | _ => none }
def queueTextsRow : OpenClaim := { program := "ytolonoabipnpfaa", sum := "fcaf37f0ce2b2d1fb191588784dca9e51fb5d087b5bd961428669cbcee88df90", func := "stint/stintlaw04.QueueTexts", spec := "queueTexts", unfollowed := true, recurses := true, apart := false }
def QueueTextsSaid : Prop := queueTextsRow.holds Try.pinned (OpenSpec.ofChange queueTextsSpec)

/-- ITS FALSE NEIGHBOUR: 'it returns false'. Refute it at one input. -/
def queueTextsWrong : ChangeSpec := { name := "queueTexts", fn := fun _ => fun
  | [d] => { results := [.lit (.bool false)], args := [d] }
  | _ => none }
def QueueTextsWrongFalsely : Prop := queueTextsRow.holds Try.pinned (OpenSpec.ofChange queueTextsWrong)

/-- 'stintlaw04.QueueTurns': WHATEVER THE INPUT: true; the input reads as it did. -/
def queueTurnsSpec : ChangeSpec := { name := "queueTurns", fn := fun _ => fun
  | [d1, d2] => { results := [.lit (.bool true)], args := [d1, d2] }
  | _ => none }
def queueTurnsRow : OpenClaim := { program := "ytolonoabipnpfaa", sum := "fcaf37f0ce2b2d1fb191588784dca9e51fb5d087b5bd961428669cbcee88df90", func := "stint/stintlaw04.QueueTurns", spec := "queueTurns", unfollowed := true, recurses := true, apart := false }
def QueueTurnsSaid : Prop := queueTurnsRow.holds Try.pinned (OpenSpec.ofChange queueTurnsSpec)

/-- ITS FALSE NEIGHBOUR: 'it returns false'. Refute it at one input. -/
def queueTurnsWrong : ChangeSpec := { name := "queueTurns", fn := fun _ => fun
  | [d1, d2] => { results := [.lit (.bool false)], args := [d1, d2] }
  | _ => none }
def QueueTurnsWrongFalsely : Prop := queueTurnsRow.holds Try.pinned (OpenSpec.ofChange queueTurnsWrong)

/-- 'stintlaw04.QueuePlays': WHATEVER THE INPUT: true; the input reads as it did. -/
def queuePlaysSpec : ChangeSpec := { name := "queuePlays", fn := fun _ => fun
  | [d] => { results := [.lit (.bool true)], args := [d] }
  | _ => none }
def queuePlaysRow : OpenClaim := { program := "ytolonoabipnpfaa", sum := "fcaf37f0ce2b2d1fb191588784dca9e51fb5d087b5bd961428669cbcee88df90", func := "stint/stintlaw04.QueuePlays", spec := "queuePlays", unfollowed := true, recurses := true, apart := false }
def QueuePlaysSaid : Prop := queuePlaysRow.holds Try.pinned (OpenSpec.ofChange queuePlaysSpec)

/-- ITS FALSE NEIGHBOUR: 'it returns false'. Refute it at one input. -/
def queuePlaysWrong : ChangeSpec := { name := "queuePlays", fn := fun _ => fun
  | [d] => { results := [.lit (.bool false)], args := [d] }
  | _ => none }
def QueuePlaysWrongFalsely : Prop := queuePlaysRow.holds Try.pinned (OpenSpec.ofChange queuePlaysWrong)

/-- 'stintlaw04.QueueShares': WHATEVER THE INPUT: true; the input reads as it did. -/
def queueSharesSpec : ChangeSpec := { name := "queueShares", fn := fun _ => fun
  | [d1, d2] => { results := [.lit (.bool true)], args := [d1, d2] }
  | _ => none }
def queueSharesRow : OpenClaim := { program := "ytolonoabipnpfaa", sum := "fcaf37f0ce2b2d1fb191588784dca9e51fb5d087b5bd961428669cbcee88df90", func := "stint/stintlaw04.QueueShares", spec := "queueShares", unfollowed := true, recurses := true, apart := false }
def QueueSharesSaid : Prop := queueSharesRow.holds Try.pinned (OpenSpec.ofChange queueSharesSpec)

/-- ITS FALSE NEIGHBOUR: 'it returns false'. Refute it at one input. -/
def queueSharesWrong : ChangeSpec := { name := "queueShares", fn := fun _ => fun
  | [d1, d2] => { results := [.lit (.bool false)], args := [d1, d2] }
  | _ => none }
def QueueSharesWrongFalsely : Prop := queueSharesRow.holds Try.pinned (OpenSpec.ofChange queueSharesWrong)

/- THE SECOND FORM. 'bulk': how many values and letters a reading holds, each counted each time it is reached (what is shared counts as often as it is met; a slice's spare places count too). A statement '..UptoSaid' is the law's where the arguments, and the package variables that the reading takes, are together of bulk at most 1048576: NARROWER than '..Said'. Prove '..Said' where nothing that the law and all that it calls make is longer than what came in: it says more and counts as full. Else prove '..UptoSaid'. A law counts once. -/
mutual
def uptoBulk {H : Type} : DataW H → Nat
  | .lit (.string bytes) => bytes.length + 1
  | .lit _ => 1
  | .nil => 1
  | .ptr d => uptoBulk d + 1
  | .slice elems spare => uptoBulkAll elems + uptoBulkAll spare + 1
  | .agg parts => uptoBulkAll parts + 1
  | .iface _ d => uptoBulk d + 1
  | .map entries => uptoBulkEntries entries + 1
  | .held _ => 1
def uptoBulkAll {H : Type} : List (DataW H) → Nat
  | [] => 0
  | d :: r => uptoBulk d + uptoBulkAll r
def uptoBulkEntries {H : Type} : List (Lit × DataW H) → Nat
  | [] => 0
  | x :: r => uptoBulkEntry x + uptoBulkEntries r
def uptoBulkEntry {H : Type} : Lit × DataW H → Nat
  | (.string bytes, d) => bytes.length + uptoBulk d + 1
  | (_, d) => uptoBulk d + 1
 end
def uptoSmall : (H : Type) → List (DataW H) → Bool := fun _ ds => decide (uptoBulkAll ds ≤ 1048576)
def OpenSpec.upto (s : _root_.Go.ChangeSpec) : _root_.Go.OpenSpec := { _root_.Go.OpenSpec.ofChange s with cond := some uptoSmall }

/-- 'stintlaw04.QueueTexts', WHERE WHAT IT READS IS OF BULK AT MOST 1048576: true; the input reads as it did. -/
def queueTextsUptoRow : OpenClaim := { program := "ytolonoabipnpfaa", sum := "fcaf37f0ce2b2d1fb191588784dca9e51fb5d087b5bd961428669cbcee88df90", func := "stint/stintlaw04.QueueTexts", spec := "queueTexts", unfollowed := true, recurses := true, apart := false, narrowed := true }
def QueueTextsUptoSaid : Prop := queueTextsUptoRow.holds Try.pinned (OpenSpec.upto queueTextsSpec)

/-- 'stintlaw04.QueueTurns', WHERE WHAT IT READS IS OF BULK AT MOST 1048576: true; the input reads as it did. -/
def queueTurnsUptoRow : OpenClaim := { program := "ytolonoabipnpfaa", sum := "fcaf37f0ce2b2d1fb191588784dca9e51fb5d087b5bd961428669cbcee88df90", func := "stint/stintlaw04.QueueTurns", spec := "queueTurns", unfollowed := true, recurses := true, apart := false, narrowed := true }
def QueueTurnsUptoSaid : Prop := queueTurnsUptoRow.holds Try.pinned (OpenSpec.upto queueTurnsSpec)

/-- 'stintlaw04.QueuePlays', WHERE WHAT IT READS IS OF BULK AT MOST 1048576: true; the input reads as it did. -/
def queuePlaysUptoRow : OpenClaim := { program := "ytolonoabipnpfaa", sum := "fcaf37f0ce2b2d1fb191588784dca9e51fb5d087b5bd961428669cbcee88df90", func := "stint/stintlaw04.QueuePlays", spec := "queuePlays", unfollowed := true, recurses := true, apart := false, narrowed := true }
def QueuePlaysUptoSaid : Prop := queuePlaysUptoRow.holds Try.pinned (OpenSpec.upto queuePlaysSpec)

/-- 'stintlaw04.QueueShares', WHERE WHAT IT READS IS OF BULK AT MOST 1048576: true; the input reads as it did. -/
def queueSharesUptoRow : OpenClaim := { program := "ytolonoabipnpfaa", sum := "fcaf37f0ce2b2d1fb191588784dca9e51fb5d087b5bd961428669cbcee88df90", func := "stint/stintlaw04.QueueShares", spec := "queueShares", unfollowed := true, recurses := true, apart := false, narrowed := true }
def QueueSharesUptoSaid : Prop := queueSharesUptoRow.holds Try.pinned (OpenSpec.upto queueSharesSpec)

end Rows
end Go.Proofs.Ytolonoabipnpfaa
