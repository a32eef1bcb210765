/-
  No cell of these rows narrows 'for every input' (looked for: loops, veiled, ifaces, maps, wideKeys, modest, calm, conditions, laid).
  DERIVED. THE GIVEN ROWS OF THIS SEAT. 9 by the template 'for every input the law returns true; each argument reads behind the call as it read before'; 0 by the template 'total and deterministic' (their statements: YtgobbgklmjnnlaaTotals.lean).
  GIVEN WITH THE SEED: the statements are not yours to turn. If you find one false, say at which input.
  Laid BY PROGRAM, IN A SANDBOX (cutbox-rows.mjs): the forced cells as the released guide's own fill.sh prints them over the translation d13f1a53b6c1683c… (all of the seat's roots in one cut). By AI agents, Wed Nov 11 2026. No macro, syntax, notation, axiom, sorry.
-/
import Derived.Test.YtgobbgklmjnnlaaChecked
import GoSem.Claim
import GoSem.ClaimJoined
import GoSem.ClaimMapViews
import Derived.JoinedTies
import Derived.KernelRfl
namespace Go.Proofs.Ytgobbgklmjnnlaa
/- THE CELL 'sum', in the pinned program and in every row, IS THE sha256 OF THE DUMP (.gsa) THAT YtgobbgklmjnnlaaProg.lean LOADS. Nothing in Lean hashes anything: it is a label: what it is worth is what the hold of that sum in a sandbox is worth. -/
noncomputable def Try.pinned : Pinned := { name := "ytgobbgklmjnnlaa", sum := "d13f1a53b6c1683c8e70fc5056fcdaa2c5a466b6e6dd6ec76df5897e61873bbf", checked := Try.checked }
namespace Rows
def none {H : Type} : Left H := { results := [], args := [] }

/-- 'stintlaw02.FrameSums': WHATEVER THE INPUT: true; the input reads as it did. -/
def frameSumsSpec : ChangeSpec := { name := "frameSums", fn := fun _ => fun
  | [d1, d2] => { results := [.lit (.bool true)], args := [d1, d2] }
  | _ => none }
def frameSumsRow : OpenClaim := { program := "ytgobbgklmjnnlaa", sum := "d13f1a53b6c1683c8e70fc5056fcdaa2c5a466b6e6dd6ec76df5897e61873bbf", func := "stint/stintlaw02.FrameSums", spec := "frameSums", apart := false }
def FrameSumsSaid : Prop := frameSumsRow.holds Try.pinned (OpenSpec.ofChange frameSumsSpec)

/-- ITS FALSE NEIGHBOUR: 'it returns false'. Refute it at one input. -/
def frameSumsWrong : ChangeSpec := { name := "frameSums", fn := fun _ => fun
  | [d1, d2] => { results := [.lit (.bool false)], args := [d1, d2] }
  | _ => none }
def FrameSumsWrongFalsely : Prop := frameSumsRow.holds Try.pinned (OpenSpec.ofChange frameSumsWrong)

/-- 'stintlaw02.FrameMakes': WHATEVER THE INPUT: true; the input reads as it did. -/
def frameMakesSpec : ChangeSpec := { name := "frameMakes", fn := fun _ => fun
  | [d1, d2, d3, d4] => { results := [.lit (.bool true)], args := [d1, d2, d3, d4] }
  | _ => none }
def frameMakesRow : OpenClaim := { program := "ytgobbgklmjnnlaa", sum := "d13f1a53b6c1683c8e70fc5056fcdaa2c5a466b6e6dd6ec76df5897e61873bbf", func := "stint/stintlaw02.FrameMakes", spec := "frameMakes", apart := false }
def FrameMakesSaid : Prop := frameMakesRow.holds Try.pinned (OpenSpec.ofChange frameMakesSpec)

/-- ITS FALSE NEIGHBOUR: 'it returns false'. Refute it at one input. -/
def frameMakesWrong : ChangeSpec := { name := "frameMakes", fn := fun _ => fun
  | [d1, d2, d3, d4] => { results := [.lit (.bool false)], args := [d1, d2, d3, d4] }
  | _ => none }
def FrameMakesWrongFalsely : Prop := frameMakesRow.holds Try.pinned (OpenSpec.ofChange frameMakesWrong)

/-- 'stintlaw02.FrameTakes': WHATEVER THE INPUT: true; the input reads as it did. -/
def frameTakesSpec : ChangeSpec := { name := "frameTakes", fn := fun _ => fun
  | [d1, d2, d3, d4] => { results := [.lit (.bool true)], args := [d1, d2, d3, d4] }
  | _ => none }
def frameTakesRow : OpenClaim := { program := "ytgobbgklmjnnlaa", sum := "d13f1a53b6c1683c8e70fc5056fcdaa2c5a466b6e6dd6ec76df5897e61873bbf", func := "stint/stintlaw02.FrameTakes", spec := "frameTakes", apart := false }
def FrameTakesSaid : Prop := frameTakesRow.holds Try.pinned (OpenSpec.ofChange frameTakesSpec)

/-- ITS FALSE NEIGHBOUR: 'it returns false'. Refute it at one input. -/
def frameTakesWrong : ChangeSpec := { name := "frameTakes", fn := fun _ => fun
  | [d1, d2, d3, d4] => { results := [.lit (.bool false)], args := [d1, d2, d3, d4] }
  | _ => none }
def FrameTakesWrongFalsely : Prop := frameTakesRow.holds Try.pinned (OpenSpec.ofChange frameTakesWrong)

/-- 'stintlaw02.FrameBack': WHATEVER THE INPUT: true; the input reads as it did. -/
def frameBackSpec : ChangeSpec := { name := "frameBack", fn := fun _ => fun
  | [d1, d2, d3, d4, d5] => { results := [.lit (.bool true)], args := [d1, d2, d3, d4, d5] }
  | _ => none }
def frameBackRow : OpenClaim := { program := "ytgobbgklmjnnlaa", sum := "d13f1a53b6c1683c8e70fc5056fcdaa2c5a466b6e6dd6ec76df5897e61873bbf", func := "stint/stintlaw02.FrameBack", spec := "frameBack", apart := false }
def FrameBackSaid : Prop := frameBackRow.holds Try.pinned (OpenSpec.ofChange frameBackSpec)

/-- ITS FALSE NEIGHBOUR: 'it returns false'. Refute it at one input. -/
def frameBackWrong : ChangeSpec := { name := "frameBack", fn := fun _ => fun
  | [d1, d2, d3, d4, d5] => { results := [.lit (.bool false)], args := [d1, d2, d3, d4, d5] }
  | _ => none }
def FrameBackWrongFalsely : Prop := frameBackRow.holds Try.pinned (OpenSpec.ofChange frameBackWrong)

/-- 'stintlaw02.FrameTold': WHATEVER THE INPUT: true; the input reads as it did. -/
def frameToldSpec : ChangeSpec := { name := "frameTold", fn := fun _ => fun
  | [d] => { results := [.lit (.bool true)], args := [d] }
  | _ => none }
def frameToldRow : OpenClaim := { program := "ytgobbgklmjnnlaa", sum := "d13f1a53b6c1683c8e70fc5056fcdaa2c5a466b6e6dd6ec76df5897e61873bbf", func := "stint/stintlaw02.FrameTold", spec := "frameTold", apart := false }
def FrameToldSaid : Prop := frameToldRow.holds Try.pinned (OpenSpec.ofChange frameToldSpec)

/-- ITS FALSE NEIGHBOUR: 'it returns false'. Refute it at one input. -/
def frameToldWrong : ChangeSpec := { name := "frameTold", fn := fun _ => fun
  | [d] => { results := [.lit (.bool false)], args := [d] }
  | _ => none }
def FrameToldWrongFalsely : Prop := frameToldRow.holds Try.pinned (OpenSpec.ofChange frameToldWrong)

/-- 'stintlaw02.FrameElsewhere': WHATEVER THE INPUT: true; the input reads as it did. -/
def frameElsewhereSpec : ChangeSpec := { name := "frameElsewhere", fn := fun _ => fun
  | [d1, d2, d3, d4] => { results := [.lit (.bool true)], args := [d1, d2, d3, d4] }
  | _ => none }
def frameElsewhereRow : OpenClaim := { program := "ytgobbgklmjnnlaa", sum := "d13f1a53b6c1683c8e70fc5056fcdaa2c5a466b6e6dd6ec76df5897e61873bbf", func := "stint/stintlaw02.FrameElsewhere", spec := "frameElsewhere", apart := false }
def FrameElsewhereSaid : Prop := frameElsewhereRow.holds Try.pinned (OpenSpec.ofChange frameElsewhereSpec)

/-- ITS FALSE NEIGHBOUR: 'it returns false'. Refute it at one input. -/
def frameElsewhereWrong : ChangeSpec := { name := "frameElsewhere", fn := fun _ => fun
  | [d1, d2, d3, d4] => { results := [.lit (.bool false)], args := [d1, d2, d3, d4] }
  | _ => none }
def FrameElsewhereWrongFalsely : Prop := frameElsewhereRow.holds Try.pinned (OpenSpec.ofChange frameElsewhereWrong)

/-- 'stintlaw02.FrameNames': WHATEVER THE INPUT: true; the input reads as it did. -/
def frameNamesSpec : ChangeSpec := { name := "frameNames", fn := fun _ => fun
  | [] => { results := [.lit (.bool true)], args := [] }
  | _ => none }
def frameNamesRow : OpenClaim := { program := "ytgobbgklmjnnlaa", sum := "d13f1a53b6c1683c8e70fc5056fcdaa2c5a466b6e6dd6ec76df5897e61873bbf", func := "stint/stintlaw02.FrameNames", spec := "frameNames", apart := false }
def FrameNamesSaid : Prop := frameNamesRow.holds Try.pinned (OpenSpec.ofChange frameNamesSpec)

/-- ITS FALSE NEIGHBOUR: 'it returns false'. Refute it at one input. -/
def frameNamesWrong : ChangeSpec := { name := "frameNames", fn := fun _ => fun
  | [] => { results := [.lit (.bool false)], args := [] }
  | _ => none }
def FrameNamesWrongFalsely : Prop := frameNamesRow.holds Try.pinned (OpenSpec.ofChange frameNamesWrong)

/-- 'stintlaw02.FrameAll': WHATEVER THE INPUT: true; the input reads as it did. -/
def frameAllSpec : ChangeSpec := { name := "frameAll", fn := fun _ => fun
  | [d1, d2, d3] => { results := [.lit (.bool true)], args := [d1, d2, d3] }
  | _ => none }
def frameAllRow : OpenClaim := { program := "ytgobbgklmjnnlaa", sum := "d13f1a53b6c1683c8e70fc5056fcdaa2c5a466b6e6dd6ec76df5897e61873bbf", func := "stint/stintlaw02.FrameAll", spec := "frameAll", unfollowed := true, recurses := true, apart := false }
def FrameAllSaid : Prop := frameAllRow.holds Try.pinned (OpenSpec.ofChange frameAllSpec)

/-- ITS FALSE NEIGHBOUR: 'it returns false'. Refute it at one input. -/
def frameAllWrong : ChangeSpec := { name := "frameAll", fn := fun _ => fun
  | [d1, d2, d3] => { results := [.lit (.bool false)], args := [d1, d2, d3] }
  | _ => none }
def FrameAllWrongFalsely : Prop := frameAllRow.holds Try.pinned (OpenSpec.ofChange frameAllWrong)

/-- 'stintlaw02.FrameRow': WHATEVER THE INPUT: true; the input reads as it did. -/
def frameRowSpec : ChangeSpec := { name := "frameRow", fn := fun _ => fun
  | [d1, d2, d3] => { results := [.lit (.bool true)], args := [d1, d2, d3] }
  | _ => none }
def frameRowRow : OpenClaim := { program := "ytgobbgklmjnnlaa", sum := "d13f1a53b6c1683c8e70fc5056fcdaa2c5a466b6e6dd6ec76df5897e61873bbf", func := "stint/stintlaw02.FrameRow", spec := "frameRow", unfollowed := true, recurses := true, apart := false }
def FrameRowSaid : Prop := frameRowRow.holds Try.pinned (OpenSpec.ofChange frameRowSpec)

/-- ITS FALSE NEIGHBOUR: 'it returns false'. Refute it at one input. -/
def frameRowWrong : ChangeSpec := { name := "frameRow", fn := fun _ => fun
  | [d1, d2, d3] => { results := [.lit (.bool false)], args := [d1, d2, d3] }
  | _ => none }
def FrameRowWrongFalsely : Prop := frameRowRow.holds Try.pinned (OpenSpec.ofChange frameRowWrong)

/- THE SECOND FORM. 'bulk': how many values and letters a reading holds, each counted each time it is reached (what is shared counts as often as it is met; a slice's spare places count too). A statement '..UptoSaid' is the law's where the arguments, and the package variables that the reading takes, are together of bulk at most 1048576: NARROWER than '..Said'. Prove '..Said' where nothing that the law and all that it calls make is longer than what came in: it says more and counts as full. Else prove '..UptoSaid'. A law counts once. -/
mutual
def uptoBulk {H : Type} : DataW H → Nat
  | .lit (.string bytes) => bytes.length + 1
  | .lit _ => 1
  | .nil => 1
  | .ptr d => uptoBulk d + 1
  | .slice elems spare => uptoBulkAll elems + uptoBulkAll spare + 1
  | .agg parts => uptoBulkAll parts + 1
  | .iface _ d => uptoBulk d + 1
  | .map entries => uptoBulkEntries entries + 1
  | .held _ => 1
def uptoBulkAll {H : Type} : List (DataW H) → Nat
  | [] => 0
  | d :: r => uptoBulk d + uptoBulkAll r
def uptoBulkEntries {H : Type} : List (Lit × DataW H) → Nat
  | [] => 0
  | x :: r => uptoBulkEntry x + uptoBulkEntries r
def uptoBulkEntry {H : Type} : Lit × DataW H → Nat
  | (.string bytes, d) => bytes.length + uptoBulk d + 1
  | (_, d) => uptoBulk d + 1
 end
def uptoSmall : (H : Type) → List (DataW H) → Bool := fun _ ds => decide (uptoBulkAll ds ≤ 1048576)
def OpenSpec.upto (s : _root_.Go.ChangeSpec) : _root_.Go.OpenSpec := { _root_.Go.OpenSpec.ofChange s with cond := some uptoSmall }

/-- 'stintlaw02.FrameSums', WHERE WHAT IT READS IS OF BULK AT MOST 1048576: true; the input reads as it did. -/
def frameSumsUptoRow : OpenClaim := { program := "ytgobbgklmjnnlaa", sum := "d13f1a53b6c1683c8e70fc5056fcdaa2c5a466b6e6dd6ec76df5897e61873bbf", func := "stint/stintlaw02.FrameSums", spec := "frameSums", apart := false, narrowed := true }
def FrameSumsUptoSaid : Prop := frameSumsUptoRow.holds Try.pinned (OpenSpec.upto frameSumsSpec)

/-- 'stintlaw02.FrameMakes', WHERE WHAT IT READS IS OF BULK AT MOST 1048576: true; the input reads as it did. -/
def frameMakesUptoRow : OpenClaim := { program := "ytgobbgklmjnnlaa", sum := "d13f1a53b6c1683c8e70fc5056fcdaa2c5a466b6e6dd6ec76df5897e61873bbf", func := "stint/stintlaw02.FrameMakes", spec := "frameMakes", apart := false, narrowed := true }
def FrameMakesUptoSaid : Prop := frameMakesUptoRow.holds Try.pinned (OpenSpec.upto frameMakesSpec)

/-- 'stintlaw02.FrameTakes', WHERE WHAT IT READS IS OF BULK AT MOST 1048576: true; the input reads as it did. -/
def frameTakesUptoRow : OpenClaim := { program := "ytgobbgklmjnnlaa", sum := "d13f1a53b6c1683c8e70fc5056fcdaa2c5a466b6e6dd6ec76df5897e61873bbf", func := "stint/stintlaw02.FrameTakes", spec := "frameTakes", apart := false, narrowed := true }
def FrameTakesUptoSaid : Prop := frameTakesUptoRow.holds Try.pinned (OpenSpec.upto frameTakesSpec)

/-- 'stintlaw02.FrameBack', WHERE WHAT IT READS IS OF BULK AT MOST 1048576: true; the input reads as it did. -/
def frameBackUptoRow : OpenClaim := { program := "ytgobbgklmjnnlaa", sum := "d13f1a53b6c1683c8e70fc5056fcdaa2c5a466b6e6dd6ec76df5897e61873bbf", func := "stint/stintlaw02.FrameBack", spec := "frameBack", apart := false, narrowed := true }
def FrameBackUptoSaid : Prop := frameBackUptoRow.holds Try.pinned (OpenSpec.upto frameBackSpec)

/-- 'stintlaw02.FrameTold', WHERE WHAT IT READS IS OF BULK AT MOST 1048576: true; the input reads as it did. -/
def frameToldUptoRow : OpenClaim := { program := "ytgobbgklmjnnlaa", sum := "d13f1a53b6c1683c8e70fc5056fcdaa2c5a466b6e6dd6ec76df5897e61873bbf", func := "stint/stintlaw02.FrameTold", spec := "frameTold", apart := false, narrowed := true }
def FrameToldUptoSaid : Prop := frameToldUptoRow.holds Try.pinned (OpenSpec.upto frameToldSpec)

/-- 'stintlaw02.FrameElsewhere', WHERE WHAT IT READS IS OF BULK AT MOST 1048576: true; the input reads as it did. -/
def frameElsewhereUptoRow : OpenClaim := { program := "ytgobbgklmjnnlaa", sum := "d13f1a53b6c1683c8e70fc5056fcdaa2c5a466b6e6dd6ec76df5897e61873bbf", func := "stint/stintlaw02.FrameElsewhere", spec := "frameElsewhere", apart := false, narrowed := true }
def FrameElsewhereUptoSaid : Prop := frameElsewhereUptoRow.holds Try.pinned (OpenSpec.upto frameElsewhereSpec)

/-- 'stintlaw02.FrameNames', WHERE WHAT IT READS IS OF BULK AT MOST 1048576: true; the input reads as it did. -/
def frameNamesUptoRow : OpenClaim := { program := "ytgobbgklmjnnlaa", sum := "d13f1a53b6c1683c8e70fc5056fcdaa2c5a466b6e6dd6ec76df5897e61873bbf", func := "stint/stintlaw02.FrameNames", spec := "frameNames", apart := false, narrowed := true }
def FrameNamesUptoSaid : Prop := frameNamesUptoRow.holds Try.pinned (OpenSpec.upto frameNamesSpec)

/-- 'stintlaw02.FrameAll', WHERE WHAT IT READS IS OF BULK AT MOST 1048576: true; the input reads as it did. -/
def frameAllUptoRow : OpenClaim := { program := "ytgobbgklmjnnlaa", sum := "d13f1a53b6c1683c8e70fc5056fcdaa2c5a466b6e6dd6ec76df5897e61873bbf", func := "stint/stintlaw02.FrameAll", spec := "frameAll", unfollowed := true, recurses := true, apart := false, narrowed := true }
def FrameAllUptoSaid : Prop := frameAllUptoRow.holds Try.pinned (OpenSpec.upto frameAllSpec)

/-- 'stintlaw02.FrameRow', WHERE WHAT IT READS IS OF BULK AT MOST 1048576: true; the input reads as it did. -/
def frameRowUptoRow : OpenClaim := { program := "ytgobbgklmjnnlaa", sum := "d13f1a53b6c1683c8e70fc5056fcdaa2c5a466b6e6dd6ec76df5897e61873bbf", func := "stint/stintlaw02.FrameRow", spec := "frameRow", unfollowed := true, recurses := true, apart := false, narrowed := true }
def FrameRowUptoSaid : Prop := frameRowUptoRow.holds Try.pinned (OpenSpec.upto frameRowSpec)

end Rows
end Go.Proofs.Ytgobbgklmjnnlaa
