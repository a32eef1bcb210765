/-
  No cell of these rows narrows 'for every input' (looked for: loops, veiled, ifaces, maps, wideKeys, modest, calm, conditions, laid).
  DERIVED. THE GIVEN ROWS OF THIS SEAT. 5 by the template 'for every input the law returns true; each argument reads behind the call as it read before'; 0 by the template 'total and deterministic' (their statements: YtikimfdijkejpaaTotals.lean).
  GIVEN WITH THE SEED: the statements are not yours to turn. If you find one false, say at which input.
  Laid BY PROGRAM, IN A SANDBOX (cutbox-rows.mjs): the forced cells as the released guide's own fill.sh prints them over the translation 19d6740b9348adab… (all of the seat's roots in one cut). By AI agents, Wed Nov 11 2026. No macro, syntax, notation, axiom, sorry.
-/
import Derived.Test.YtikimfdijkejpaaChecked
import GoSem.Claim
import GoSem.ClaimJoined
import GoSem.ClaimMapViews
import Derived.JoinedTies
import Derived.KernelRfl
namespace Go.Proofs.Ytikimfdijkejpaa
/- THE CELL 'sum', in the pinned program and in every row, IS THE sha256 OF THE DUMP (.gsa) THAT YtikimfdijkejpaaProg.lean LOADS. Nothing in Lean hashes anything: it is a label: what it is worth is what the hold of that sum in a sandbox is worth. -/
noncomputable def Try.pinned : Pinned := { name := "ytikimfdijkejpaa", sum := "19d6740b9348adabcab865212717ed98fcecbd5bcf1cab062e52145b1cbef8f5", checked := Try.checked }
namespace Rows
def none {H : Type} : Left H := { results := [], args := [] }

/-- 'stintlaw03.HeapShares': WHATEVER THE INPUT: true; the input reads as it did. -/
def heapSharesSpec : ChangeSpec := { name := "heapShares", fn := fun _ => fun
  | [d1, d2] => { results := [.lit (.bool true)], args := [d1, d2] }
  | _ => none }
def heapSharesRow : OpenClaim := { program := "ytikimfdijkejpaa", sum := "19d6740b9348adabcab865212717ed98fcecbd5bcf1cab062e52145b1cbef8f5", func := "stint/stintlaw03.HeapShares", spec := "heapShares", inPlace := ["maps.clone"], unfollowed := true, recurses := true, apart := false }
def HeapSharesSaid : Prop := heapSharesRow.holds Try.pinned (OpenSpec.ofChange heapSharesSpec)

/-- ITS FALSE NEIGHBOUR: 'it returns false'. Refute it at one input. -/
def heapSharesWrong : ChangeSpec := { name := "heapShares", fn := fun _ => fun
  | [d1, d2] => { results := [.lit (.bool false)], args := [d1, d2] }
  | _ => none }
def HeapSharesWrongFalsely : Prop := heapSharesRow.holds Try.pinned (OpenSpec.ofChange heapSharesWrong)

/-- 'stintlaw03.HeapTexts': WHATEVER THE INPUT: true; the input reads as it did. -/
def heapTextsSpec : ChangeSpec := { name := "heapTexts", fn := fun _ => fun
  | [d1, d2] => { results := [.lit (.bool true)], args := [d1, d2] }
  | _ => none }
def heapTextsRow : OpenClaim := { program := "ytikimfdijkejpaa", sum := "19d6740b9348adabcab865212717ed98fcecbd5bcf1cab062e52145b1cbef8f5", func := "stint/stintlaw03.HeapTexts", spec := "heapTexts", inPlace := ["maps.clone"], unfollowed := true, recurses := true, apart := false }
def HeapTextsSaid : Prop := heapTextsRow.holds Try.pinned (OpenSpec.ofChange heapTextsSpec)

/-- ITS FALSE NEIGHBOUR: 'it returns false'. Refute it at one input. -/
def heapTextsWrong : ChangeSpec := { name := "heapTexts", fn := fun _ => fun
  | [d1, d2] => { results := [.lit (.bool false)], args := [d1, d2] }
  | _ => none }
def HeapTextsWrongFalsely : Prop := heapTextsRow.holds Try.pinned (OpenSpec.ofChange heapTextsWrong)

/-- 'stintlaw03.HeapAsks': WHATEVER THE INPUT: true; the input reads as it did. -/
def heapAsksSpec : ChangeSpec := { name := "heapAsks", fn := fun _ => fun
  | [d] => { results := [.lit (.bool true)], args := [d] }
  | _ => none }
def heapAsksRow : OpenClaim := { program := "ytikimfdijkejpaa", sum := "19d6740b9348adabcab865212717ed98fcecbd5bcf1cab062e52145b1cbef8f5", func := "stint/stintlaw03.HeapAsks", spec := "heapAsks", inPlace := ["maps.clone"], unfollowed := true, recurses := true, apart := false }
def HeapAsksSaid : Prop := heapAsksRow.holds Try.pinned (OpenSpec.ofChange heapAsksSpec)

/-- ITS FALSE NEIGHBOUR: 'it returns false'. Refute it at one input. -/
def heapAsksWrong : ChangeSpec := { name := "heapAsks", fn := fun _ => fun
  | [d] => { results := [.lit (.bool false)], args := [d] }
  | _ => none }
def HeapAsksWrongFalsely : Prop := heapAsksRow.holds Try.pinned (OpenSpec.ofChange heapAsksWrong)

/-- 'stintlaw03.HeapScript': WHATEVER THE INPUT: true; the input reads as it did. -/
def heapScriptSpec : ChangeSpec := { name := "heapScript", fn := fun _ => fun
  | [d] => { results := [.lit (.bool true)], args := [d] }
  | _ => none }
def heapScriptRow : OpenClaim := { program := "ytikimfdijkejpaa", sum := "19d6740b9348adabcab865212717ed98fcecbd5bcf1cab062e52145b1cbef8f5", func := "stint/stintlaw03.HeapScript", spec := "heapScript", inPlace := ["maps.clone"], unfollowed := true, recurses := true, apart := false }
def HeapScriptSaid : Prop := heapScriptRow.holds Try.pinned (OpenSpec.ofChange heapScriptSpec)

/-- ITS FALSE NEIGHBOUR: 'it returns false'. Refute it at one input. -/
def heapScriptWrong : ChangeSpec := { name := "heapScript", fn := fun _ => fun
  | [d] => { results := [.lit (.bool false)], args := [d] }
  | _ => none }
def HeapScriptWrongFalsely : Prop := heapScriptRow.holds Try.pinned (OpenSpec.ofChange heapScriptWrong)

/-- 'stintlaw03.HeapStays': WHATEVER THE INPUT: true; the input reads as it did. -/
def heapStaysSpec : ChangeSpec := { name := "heapStays", fn := fun _ => fun
  | [d1, d2] => { results := [.lit (.bool true)], args := [d1, d2] }
  | _ => none }
def heapStaysRow : OpenClaim := { program := "ytikimfdijkejpaa", sum := "19d6740b9348adabcab865212717ed98fcecbd5bcf1cab062e52145b1cbef8f5", func := "stint/stintlaw03.HeapStays", spec := "heapStays", inPlace := ["maps.clone"], unfollowed := true, recurses := true, apart := false }
def HeapStaysSaid : Prop := heapStaysRow.holds Try.pinned (OpenSpec.ofChange heapStaysSpec)

/-- ITS FALSE NEIGHBOUR: 'it returns false'. Refute it at one input. -/
def heapStaysWrong : ChangeSpec := { name := "heapStays", fn := fun _ => fun
  | [d1, d2] => { results := [.lit (.bool false)], args := [d1, d2] }
  | _ => none }
def HeapStaysWrongFalsely : Prop := heapStaysRow.holds Try.pinned (OpenSpec.ofChange heapStaysWrong)

/- THE SECOND FORM. 'bulk': how many values and letters a reading holds, each counted each time it is reached (what is shared counts as often as it is met; a slice's spare places count too). A statement '..UptoSaid' is the law's where the arguments, and the package variables that the reading takes, are together of bulk at most 1048576: NARROWER than '..Said'. Prove '..Said' where nothing that the law and all that it calls make is longer than what came in: it says more and counts as full. Else prove '..UptoSaid'. A law counts once. -/
mutual
def uptoBulk {H : Type} : DataW H → Nat
  | .lit (.string bytes) => bytes.length + 1
  | .lit _ => 1
  | .nil => 1
  | .ptr d => uptoBulk d + 1
  | .slice elems spare => uptoBulkAll elems + uptoBulkAll spare + 1
  | .agg parts => uptoBulkAll parts + 1
  | .iface _ d => uptoBulk d + 1
  | .map entries => uptoBulkEntries entries + 1
  | .held _ => 1
def uptoBulkAll {H : Type} : List (DataW H) → Nat
  | [] => 0
  | d :: r => uptoBulk d + uptoBulkAll r
def uptoBulkEntries {H : Type} : List (Lit × DataW H) → Nat
  | [] => 0
  | x :: r => uptoBulkEntry x + uptoBulkEntries r
def uptoBulkEntry {H : Type} : Lit × DataW H → Nat
  | (.string bytes, d) => bytes.length + uptoBulk d + 1
  | (_, d) => uptoBulk d + 1
 end
def uptoSmall : (H : Type) → List (DataW H) → Bool := fun _ ds => decide (uptoBulkAll ds ≤ 1048576)
def OpenSpec.upto (s : _root_.Go.ChangeSpec) : _root_.Go.OpenSpec := { _root_.Go.OpenSpec.ofChange s with cond := some uptoSmall }

/-- 'stintlaw03.HeapShares', WHERE WHAT IT READS IS OF BULK AT MOST 1048576: true; the input reads as it did. -/
def heapSharesUptoRow : OpenClaim := { program := "ytikimfdijkejpaa", sum := "19d6740b9348adabcab865212717ed98fcecbd5bcf1cab062e52145b1cbef8f5", func := "stint/stintlaw03.HeapShares", spec := "heapShares", inPlace := ["maps.clone"], unfollowed := true, recurses := true, apart := false, narrowed := true }
def HeapSharesUptoSaid : Prop := heapSharesUptoRow.holds Try.pinned (OpenSpec.upto heapSharesSpec)

/-- 'stintlaw03.HeapTexts', WHERE WHAT IT READS IS OF BULK AT MOST 1048576: true; the input reads as it did. -/
def heapTextsUptoRow : OpenClaim := { program := "ytikimfdijkejpaa", sum := "19d6740b9348adabcab865212717ed98fcecbd5bcf1cab062e52145b1cbef8f5", func := "stint/stintlaw03.HeapTexts", spec := "heapTexts", inPlace := ["maps.clone"], unfollowed := true, recurses := true, apart := false, narrowed := true }
def HeapTextsUptoSaid : Prop := heapTextsUptoRow.holds Try.pinned (OpenSpec.upto heapTextsSpec)

/-- 'stintlaw03.HeapAsks', WHERE WHAT IT READS IS OF BULK AT MOST 1048576: true; the input reads as it did. -/
def heapAsksUptoRow : OpenClaim := { program := "ytikimfdijkejpaa", sum := "19d6740b9348adabcab865212717ed98fcecbd5bcf1cab062e52145b1cbef8f5", func := "stint/stintlaw03.HeapAsks", spec := "heapAsks", inPlace := ["maps.clone"], unfollowed := true, recurses := true, apart := false, narrowed := true }
def HeapAsksUptoSaid : Prop := heapAsksUptoRow.holds Try.pinned (OpenSpec.upto heapAsksSpec)

/-- 'stintlaw03.HeapScript', WHERE WHAT IT READS IS OF BULK AT MOST 1048576: true; the input reads as it did. -/
def heapScriptUptoRow : OpenClaim := { program := "ytikimfdijkejpaa", sum := "19d6740b9348adabcab865212717ed98fcecbd5bcf1cab062e52145b1cbef8f5", func := "stint/stintlaw03.HeapScript", spec := "heapScript", inPlace := ["maps.clone"], unfollowed := true, recurses := true, apart := false, narrowed := true }
def HeapScriptUptoSaid : Prop := heapScriptUptoRow.holds Try.pinned (OpenSpec.upto heapScriptSpec)

/-- 'stintlaw03.HeapStays', WHERE WHAT IT READS IS OF BULK AT MOST 1048576: true; the input reads as it did. -/
def heapStaysUptoRow : OpenClaim := { program := "ytikimfdijkejpaa", sum := "19d6740b9348adabcab865212717ed98fcecbd5bcf1cab062e52145b1cbef8f5", func := "stint/stintlaw03.HeapStays", spec := "heapStays", inPlace := ["maps.clone"], unfollowed := true, recurses := true, apart := false, narrowed := true }
def HeapStaysUptoSaid : Prop := heapStaysUptoRow.holds Try.pinned (OpenSpec.upto heapStaysSpec)

end Rows
end Go.Proofs.Ytikimfdijkejpaa
