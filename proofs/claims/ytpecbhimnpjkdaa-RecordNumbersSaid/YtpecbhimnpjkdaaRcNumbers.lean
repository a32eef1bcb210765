/- RecordNumbers, walked. -/
import Derived.Test.YtpecbhimnpjkdaaRcShown
namespace Go.Proofs.Ytpecbhimnpjkdaa
open Go.RowKit Go.Sb

set_option maxRecDepth 100000 in
theorem numbers_any (w : World) : Calls Try.prog 4 #[] w fun e w' => e = .returned (.bool true) ∧ Fr (fun _ => False) w w' := by
  go_enter Try.func4, Try.ntmps4
  go_wp2_with (fail)
  refine (shown_any _).mono ?_
  rintro e w1 ⟨rfl, hf1⟩
  go_wp2_with (fail)
  go_ret
  exact ⟨rfl, hf1⟩

end Go.Proofs.Ytpecbhimnpjkdaa
