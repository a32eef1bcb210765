/- names.Valid, of any text. -/
import Derived.Test.YtpecbhimnpjkdaaRcValid
namespace Go.Proofs.Ytpecbhimnpjkdaa
open Go.RowKit Go.Sb

set_option maxRecDepth 100000 in
theorem valid_any (s : ByteArray) (w : World) : Calls Try.prog 31 #[.string s] w fun e w' => e = .returned (.bool (validB s)) ∧ w = w' := by
  by_cases h1 : 0 < s.size
  · by_cases h2 : s.size ≤ 200
    · cases h0 : ((s[0]'h1) == 45)
      · exact valid_in s w h2 h1 h0
      · have hv : validB s = false := by
          unfold validB
          have : s.data.toList.getD 0 0 = s[0]'h1 := by
            rw [ba_get, List.getD_eq_getElem?_getD, List.getElem?_eq_getElem]
            rfl
          rw [this, h0]
          simp
        have hz : (((s[0]'h1).toNat : Int) == 45) = true := by
          have : s[0]'h1 = 45 := by simpa using h0
          rw [this]
          rfl
        have hl' : ¬ (200 : Int) < (s.size : Int) := by omega
        have h1' : ¬ (s.size : Int) < 1 := by omega
        rw [hv]
        clear h0 hv
        go_enter Try.func31, Try.ntmps31
        go_wp2_with (fail)
        go_ret
        exact ⟨rfl, rfl⟩
    · have hv : validB s = false := by
        unfold validB
        rw [decide_eq_false (by omega)]
        rfl
      have hl' : (200 : Int) < (s.size : Int) := by omega
      have h1' : ¬ (s.size : Int) < 1 := by omega
      rw [hv]
      clear hv
      go_enter Try.func31, Try.ntmps31
      go_wp2_with (fail)
      go_ret
      exact ⟨rfl, rfl⟩
  · have hv : validB s = false := by
      unfold validB
      rw [decide_eq_false (by omega)]
      rfl
    have h1' : (s.size : Int) < 1 := by omega
    rw [hv]
    clear hv
    go_enter Try.func31, Try.ntmps31
    go_wp2_with (fail)
    go_ret
    exact ⟨rfl, rfl⟩

end Go.Proofs.Ytpecbhimnpjkdaa
