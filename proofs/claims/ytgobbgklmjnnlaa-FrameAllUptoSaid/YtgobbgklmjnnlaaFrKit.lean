/- Small facts of the given program that the laws' rows ask for. -/
import Derived.Test.YtgobbgklmjnnlaaFrBytes
import Derived.Test.YtgobbgklmjnnlaaOpen
namespace Go.Proofs.Ytgobbgklmjnnlaa
open Go.ChangeShapes Go.WideShapes Go.ChangeAt Go.RowKit Go.Sb

theorem own : ownKnob Try.prog.godebug = none := by kernel_rfl
theorem laidOut : laidOutB Try.prog = true := by kernel_rfl
theorem cells5 : Try.prog.cellsOf 5 = 1 := by kernel_rfl
theorem bytes5 : Try.prog.bytesOf 5 = 1 := by kernel_rfl

end Go.Proofs.Ytgobbgklmjnnlaa
