/-
  No cell of these rows narrows 'for every input' (looked for: loops, veiled, ifaces, maps, wideKeys, modest, calm, conditions, laid).
  DERIVED. THE GIVEN ROWS OF THIS SEAT. 7 by the template 'for every input the law returns true; each argument reads behind the call as it read before'; 0 by the template 'total and deterministic' (their statements: YtpecbhimnpjkdaaTotals.lean).
  GIVEN WITH THE SEED: the statements are not yours to turn. If you find one false, say at which input.
  Laid BY PROGRAM, IN A SANDBOX (cutbox-rows.mjs): the forced cells as the released guide's own fill.sh prints them over the translation 5749ae696b19c5a4… (all of the seat's roots in one cut). By AI agents, Wed Nov 11 2026. No macro, syntax, notation, axiom, sorry.
-/
import Derived.Test.YtpecbhimnpjkdaaChecked
import GoSem.Claim
import GoSem.ClaimJoined
import GoSem.ClaimMapViews
import Derived.JoinedTies
import Derived.KernelRfl
namespace Go.Proofs.Ytpecbhimnpjkdaa
/- THE CELL 'sum', in the pinned program and in every row, IS THE sha256 OF THE DUMP (.gsa) THAT YtpecbhimnpjkdaaProg.lean LOADS. Nothing in Lean hashes anything: it is a label: what it is worth is what the hold of that sum in a sandbox is worth. -/
noncomputable def Try.pinned : Pinned := { name := "ytpecbhimnpjkdaa", sum := "5749ae696b19c5a4865f9f0316470b9dccd39cf5f2df20f138b07ff4870d844b", checked := Try.checked }
namespace Rows
def none {H : Type} : Left H := { results := [], args := [] }

/-- 'stintlaw10.RecordForms': WHATEVER THE INPUT: true; the input reads as it did. -/
def recordFormsSpec : ChangeSpec := { name := "recordForms", fn := fun _ => fun
  | [d] => { results := [.lit (.bool true)], args := [d] }
  | _ => none }
def recordFormsRow : OpenClaim := { program := "ytpecbhimnpjkdaa", sum := "5749ae696b19c5a4865f9f0316470b9dccd39cf5f2df20f138b07ff4870d844b", func := "stint/stintlaw10.RecordForms", spec := "recordForms", inPlace := ["internal/bytealg.IndexByteString"], apart := false }
def RecordFormsSaid : Prop := recordFormsRow.holds Try.pinned (OpenSpec.ofChange recordFormsSpec)

/-- ITS FALSE NEIGHBOUR: 'it returns false'. Refute it at one input. -/
def recordFormsWrong : ChangeSpec := { name := "recordForms", fn := fun _ => fun
  | [d] => { results := [.lit (.bool false)], args := [d] }
  | _ => none }
def RecordFormsWrongFalsely : Prop := recordFormsRow.holds Try.pinned (OpenSpec.ofChange recordFormsWrong)

/-- 'stintlaw10.RecordNumbers': WHATEVER THE INPUT: true; the input reads as it did. -/
def recordNumbersSpec : ChangeSpec := { name := "recordNumbers", fn := fun _ => fun
  | [] => { results := [.lit (.bool true)], args := [] }
  | _ => none }
def recordNumbersRow : OpenClaim := { program := "ytpecbhimnpjkdaa", sum := "5749ae696b19c5a4865f9f0316470b9dccd39cf5f2df20f138b07ff4870d844b", func := "stint/stintlaw10.RecordNumbers", spec := "recordNumbers", inPlace := ["internal/bytealg.IndexByteString"], apart := false }
def RecordNumbersSaid : Prop := recordNumbersRow.holds Try.pinned (OpenSpec.ofChange recordNumbersSpec)

/-- ITS FALSE NEIGHBOUR: 'it returns false'. Refute it at one input. -/
def recordNumbersWrong : ChangeSpec := { name := "recordNumbers", fn := fun _ => fun
  | [] => { results := [.lit (.bool false)], args := [] }
  | _ => none }
def RecordNumbersWrongFalsely : Prop := recordNumbersRow.holds Try.pinned (OpenSpec.ofChange recordNumbersWrong)

/-- 'stintlaw10.RecordConfigs': WHATEVER THE INPUT: true; the input reads as it did. -/
def recordConfigsSpec : ChangeSpec := { name := "recordConfigs", fn := fun _ => fun
  | [d] => { results := [.lit (.bool true)], args := [d] }
  | _ => none }
def recordConfigsRow : OpenClaim := { program := "ytpecbhimnpjkdaa", sum := "5749ae696b19c5a4865f9f0316470b9dccd39cf5f2df20f138b07ff4870d844b", func := "stint/stintlaw10.RecordConfigs", spec := "recordConfigs", inPlace := ["internal/bytealg.IndexByteString"], apart := false }
def RecordConfigsSaid : Prop := recordConfigsRow.holds Try.pinned (OpenSpec.ofChange recordConfigsSpec)

/-- ITS FALSE NEIGHBOUR: 'it returns false'. Refute it at one input. -/
def recordConfigsWrong : ChangeSpec := { name := "recordConfigs", fn := fun _ => fun
  | [d] => { results := [.lit (.bool false)], args := [d] }
  | _ => none }
def RecordConfigsWrongFalsely : Prop := recordConfigsRow.holds Try.pinned (OpenSpec.ofChange recordConfigsWrong)

/-- 'stintlaw10.RecordChecks': WHATEVER THE INPUT: true; the input reads as it did. -/
def recordChecksSpec : ChangeSpec := { name := "recordChecks", fn := fun _ => fun
  | [d] => { results := [.lit (.bool true)], args := [d] }
  | _ => none }
def recordChecksRow : OpenClaim := { program := "ytpecbhimnpjkdaa", sum := "5749ae696b19c5a4865f9f0316470b9dccd39cf5f2df20f138b07ff4870d844b", func := "stint/stintlaw10.RecordChecks", spec := "recordChecks", inPlace := ["internal/bytealg.IndexByteString"], apart := false }
def RecordChecksSaid : Prop := recordChecksRow.holds Try.pinned (OpenSpec.ofChange recordChecksSpec)

/-- ITS FALSE NEIGHBOUR: 'it returns false'. Refute it at one input. -/
def recordChecksWrong : ChangeSpec := { name := "recordChecks", fn := fun _ => fun
  | [d] => { results := [.lit (.bool false)], args := [d] }
  | _ => none }
def RecordChecksWrongFalsely : Prop := recordChecksRow.holds Try.pinned (OpenSpec.ofChange recordChecksWrong)

/-- 'stintlaw10.RecordWrites': WHATEVER THE INPUT: true; the input reads as it did. -/
def recordWritesSpec : ChangeSpec := { name := "recordWrites", fn := fun _ => fun
  | [d1, d2] => { results := [.lit (.bool true)], args := [d1, d2] }
  | _ => none }
def recordWritesRow : OpenClaim := { program := "ytpecbhimnpjkdaa", sum := "5749ae696b19c5a4865f9f0316470b9dccd39cf5f2df20f138b07ff4870d844b", func := "stint/stintlaw10.RecordWrites", spec := "recordWrites", inPlace := ["internal/bytealg.IndexByteString"], apart := false }
def RecordWritesSaid : Prop := recordWritesRow.holds Try.pinned (OpenSpec.ofChange recordWritesSpec)

/-- ITS FALSE NEIGHBOUR: 'it returns false'. Refute it at one input. -/
def recordWritesWrong : ChangeSpec := { name := "recordWrites", fn := fun _ => fun
  | [d1, d2] => { results := [.lit (.bool false)], args := [d1, d2] }
  | _ => none }
def RecordWritesWrongFalsely : Prop := recordWritesRow.holds Try.pinned (OpenSpec.ofChange recordWritesWrong)

/-- 'stintlaw10.RecordReads': WHATEVER THE INPUT: true; the input reads as it did. -/
def recordReadsSpec : ChangeSpec := { name := "recordReads", fn := fun _ => fun
  | [d1, d2] => { results := [.lit (.bool true)], args := [d1, d2] }
  | _ => none }
def recordReadsRow : OpenClaim := { program := "ytpecbhimnpjkdaa", sum := "5749ae696b19c5a4865f9f0316470b9dccd39cf5f2df20f138b07ff4870d844b", func := "stint/stintlaw10.RecordReads", spec := "recordReads", inPlace := ["internal/bytealg.IndexByteString"], apart := false }
def RecordReadsSaid : Prop := recordReadsRow.holds Try.pinned (OpenSpec.ofChange recordReadsSpec)

/-- ITS FALSE NEIGHBOUR: 'it returns false'. Refute it at one input. -/
def recordReadsWrong : ChangeSpec := { name := "recordReads", fn := fun _ => fun
  | [d1, d2] => { results := [.lit (.bool false)], args := [d1, d2] }
  | _ => none }
def RecordReadsWrongFalsely : Prop := recordReadsRow.holds Try.pinned (OpenSpec.ofChange recordReadsWrong)

/-- 'stintlaw10.RecordBack': WHATEVER THE INPUT: true; the input reads as it did. -/
def recordBackSpec : ChangeSpec := { name := "recordBack", fn := fun _ => fun
  | [d] => { results := [.lit (.bool true)], args := [d] }
  | _ => none }
def recordBackRow : OpenClaim := { program := "ytpecbhimnpjkdaa", sum := "5749ae696b19c5a4865f9f0316470b9dccd39cf5f2df20f138b07ff4870d844b", func := "stint/stintlaw10.RecordBack", spec := "recordBack", inPlace := ["internal/bytealg.IndexByteString"], apart := false }
def RecordBackSaid : Prop := recordBackRow.holds Try.pinned (OpenSpec.ofChange recordBackSpec)

/-- ITS FALSE NEIGHBOUR: 'it returns false'. Refute it at one input. -/
def recordBackWrong : ChangeSpec := { name := "recordBack", fn := fun _ => fun
  | [d] => { results := [.lit (.bool false)], args := [d] }
  | _ => none }
def RecordBackWrongFalsely : Prop := recordBackRow.holds Try.pinned (OpenSpec.ofChange recordBackWrong)

/- THE SECOND FORM. 'bulk': how many values and letters a reading holds, each counted each time it is reached (what is shared counts as often as it is met; a slice's spare places count too). A statement '..UptoSaid' is the law's where the arguments, and the package variables that the reading takes, are together of bulk at most 1048576: NARROWER than '..Said'. Prove '..Said' where nothing that the law and all that it calls make is longer than what came in: it says more and counts as full. Else prove '..UptoSaid'. A law counts once. -/
mutual
def uptoBulk {H : Type} : DataW H → Nat
  | .lit (.string bytes) => bytes.length + 1
  | .lit _ => 1
  | .nil => 1
  | .ptr d => uptoBulk d + 1
  | .slice elems spare => uptoBulkAll elems + uptoBulkAll spare + 1
  | .agg parts => uptoBulkAll parts + 1
  | .iface _ d => uptoBulk d + 1
  | .map entries => uptoBulkEntries entries + 1
  | .held _ => 1
def uptoBulkAll {H : Type} : List (DataW H) → Nat
  | [] => 0
  | d :: r => uptoBulk d + uptoBulkAll r
def uptoBulkEntries {H : Type} : List (Lit × DataW H) → Nat
  | [] => 0
  | x :: r => uptoBulkEntry x + uptoBulkEntries r
def uptoBulkEntry {H : Type} : Lit × DataW H → Nat
  | (.string bytes, d) => bytes.length + uptoBulk d + 1
  | (_, d) => uptoBulk d + 1
 end
def uptoSmall : (H : Type) → List (DataW H) → Bool := fun _ ds => decide (uptoBulkAll ds ≤ 1048576)
def OpenSpec.upto (s : _root_.Go.ChangeSpec) : _root_.Go.OpenSpec := { _root_.Go.OpenSpec.ofChange s with cond := some uptoSmall }

/-- 'stintlaw10.RecordForms', WHERE WHAT IT READS IS OF BULK AT MOST 1048576: true; the input reads as it did. -/
def recordFormsUptoRow : OpenClaim := { program := "ytpecbhimnpjkdaa", sum := "5749ae696b19c5a4865f9f0316470b9dccd39cf5f2df20f138b07ff4870d844b", func := "stint/stintlaw10.RecordForms", spec := "recordForms", inPlace := ["internal/bytealg.IndexByteString"], apart := false, narrowed := true }
def RecordFormsUptoSaid : Prop := recordFormsUptoRow.holds Try.pinned (OpenSpec.upto recordFormsSpec)

/-- 'stintlaw10.RecordNumbers', WHERE WHAT IT READS IS OF BULK AT MOST 1048576: true; the input reads as it did. -/
def recordNumbersUptoRow : OpenClaim := { program := "ytpecbhimnpjkdaa", sum := "5749ae696b19c5a4865f9f0316470b9dccd39cf5f2df20f138b07ff4870d844b", func := "stint/stintlaw10.RecordNumbers", spec := "recordNumbers", inPlace := ["internal/bytealg.IndexByteString"], apart := false, narrowed := true }
def RecordNumbersUptoSaid : Prop := recordNumbersUptoRow.holds Try.pinned (OpenSpec.upto recordNumbersSpec)

/-- 'stintlaw10.RecordConfigs', WHERE WHAT IT READS IS OF BULK AT MOST 1048576: true; the input reads as it did. -/
def recordConfigsUptoRow : OpenClaim := { program := "ytpecbhimnpjkdaa", sum := "5749ae696b19c5a4865f9f0316470b9dccd39cf5f2df20f138b07ff4870d844b", func := "stint/stintlaw10.RecordConfigs", spec := "recordConfigs", inPlace := ["internal/bytealg.IndexByteString"], apart := false, narrowed := true }
def RecordConfigsUptoSaid : Prop := recordConfigsUptoRow.holds Try.pinned (OpenSpec.upto recordConfigsSpec)

/-- 'stintlaw10.RecordChecks', WHERE WHAT IT READS IS OF BULK AT MOST 1048576: true; the input reads as it did. -/
def recordChecksUptoRow : OpenClaim := { program := "ytpecbhimnpjkdaa", sum := "5749ae696b19c5a4865f9f0316470b9dccd39cf5f2df20f138b07ff4870d844b", func := "stint/stintlaw10.RecordChecks", spec := "recordChecks", inPlace := ["internal/bytealg.IndexByteString"], apart := false, narrowed := true }
def RecordChecksUptoSaid : Prop := recordChecksUptoRow.holds Try.pinned (OpenSpec.upto recordChecksSpec)

/-- 'stintlaw10.RecordWrites', WHERE WHAT IT READS IS OF BULK AT MOST 1048576: true; the input reads as it did. -/
def recordWritesUptoRow : OpenClaim := { program := "ytpecbhimnpjkdaa", sum := "5749ae696b19c5a4865f9f0316470b9dccd39cf5f2df20f138b07ff4870d844b", func := "stint/stintlaw10.RecordWrites", spec := "recordWrites", inPlace := ["internal/bytealg.IndexByteString"], apart := false, narrowed := true }
def RecordWritesUptoSaid : Prop := recordWritesUptoRow.holds Try.pinned (OpenSpec.upto recordWritesSpec)

/-- 'stintlaw10.RecordReads', WHERE WHAT IT READS IS OF BULK AT MOST 1048576: true; the input reads as it did. -/
def recordReadsUptoRow : OpenClaim := { program := "ytpecbhimnpjkdaa", sum := "5749ae696b19c5a4865f9f0316470b9dccd39cf5f2df20f138b07ff4870d844b", func := "stint/stintlaw10.RecordReads", spec := "recordReads", inPlace := ["internal/bytealg.IndexByteString"], apart := false, narrowed := true }
def RecordReadsUptoSaid : Prop := recordReadsUptoRow.holds Try.pinned (OpenSpec.upto recordReadsSpec)

/-- 'stintlaw10.RecordBack', WHERE WHAT IT READS IS OF BULK AT MOST 1048576: true; the input reads as it did. -/
def recordBackUptoRow : OpenClaim := { program := "ytpecbhimnpjkdaa", sum := "5749ae696b19c5a4865f9f0316470b9dccd39cf5f2df20f138b07ff4870d844b", func := "stint/stintlaw10.RecordBack", spec := "recordBack", inPlace := ["internal/bytealg.IndexByteString"], apart := false, narrowed := true }
def RecordBackUptoSaid : Prop := recordBackUptoRow.holds Try.pinned (OpenSpec.upto recordBackSpec)

end Rows
end Go.Proofs.Ytpecbhimnpjkdaa
