/- What a name may be: names.Valid and what it calls. -/
import Derived.Test.YtpecbhimnpjkdaaRcBase
import Derived.Lib.Strings
import Derived.Lib.Slices
import Derived.Lib.Walk
import Derived.Lib.Bytealg
namespace Go.Proofs.Ytpecbhimnpjkdaa
open Go.RowKit Go.Sb

set_option maxHeartbeats 1000000 in
set_option maxRecDepth 100000 in
theorem slIndexByte (s : ByteArray) (c : Int) (w : World) :
    Calls Try.prog 51 #[.string s, .int .u8 c] w fun e w' => e = .returned (.int .i64 (Lib.indexByte s.data.toList c.toNat.toUInt8)) ∧ w' = w := by
  go_enter Try.func51, Try.ntmps51
  go_wp2
  rw [run_callFunc_extern Try.func52 (by kernel_rfl) (by kernel_rfl) (by kernel_rfl) (e := Extern.BytealgIndexByte.indexByte) (by kernel_rfl), Lib.run_indexByteString]
  simp only [Result.andThen]
  rw [Oper.upon_value]
  go_wp2
  go_ret
  exact ⟨rfl, rfl⟩

set_option maxHeartbeats 1000000 in
theorem stIndexByte (s : ByteArray) (c : Int) (w : World) :
    Calls Try.prog 50 #[.string s, .int .u8 c] w fun e w' => e = .returned (.int .i64 (Lib.indexByte s.data.toList c.toNat.toUInt8)) ∧ w' = w := by
  go_enter Try.func50, Try.ntmps50
  go_wp2_with (go_at_call 51; refine (slIndexByte _ _ _).mono ?_; rintro e w' ⟨rfl, rfl⟩)
  go_ret
  exact ⟨rfl, rfl⟩

def signs : List UInt8 := [45, 43, 47, 59, 46, 36, 95, 40, 41]
def mayC (c : UInt8) : Bool := (decide (97 ≤ c.toNat) && decide (c.toNat ≤ 122)) || ((decide (65 ≤ c.toNat) && decide (c.toNat ≤ 90)) || ((decide (48 ≤ c.toNat) && decide (c.toNat ≤ 57)) || signs.contains c))

theorem sign_idx (c : UInt8) : decide (0 ≤ Lib.indexByte signs c) = signs.contains c := by
  have h : ∀ c : BitVec 8, decide (0 ≤ Lib.indexByte signs (UInt8.ofBitVec c)) = signs.contains (UInt8.ofBitVec c) := by decide +kernel
  exact h c.toBitVec

set_option maxRecDepth 100000 in
theorem may_any (c : UInt8) (w : World) : Calls Try.prog 45 #[.int .u8 (c.toNat : Int)] w fun e w' => e = .returned (.bool (mayC c)) ∧ w = w' := by
  have hS := Lib.hid (stIndexByte ⟨#[45, 43, 47, 59, 46, 36, 95, 40, 41]⟩ (c.toNat : Int) w)
  have hI : Hid (decide (0 ≤ Lib.indexByte [45, 43, 47, 59, 46, 36, 95, 40, 41] (c.toNat : Int).toNat.toUInt8) = signs.contains c) := by
    have e : (c.toNat : Int).toNat.toUInt8 = c := by simp
    rw [e]
    exact sign_idx c
  have hM : Hid (mayC c = ((decide (97 ≤ c.toNat) && decide (c.toNat ≤ 122)) || ((decide (65 ≤ c.toNat) && decide (c.toNat ≤ 90)) || ((decide (48 ≤ c.toNat) && decide (c.toNat ≤ 57)) || signs.contains c)))) := rfl
  generalize signs.contains c = sg at *
  generalize mayC c = mc at *
  have hlt := c.toNat_lt
  generalize c.toNat = n at *
  by_cases a1 : 97 ≤ n ∧ n ≤ 122
  · have hm : mc = true := by rw [hM.out, decide_eq_true a1.1, decide_eq_true a1.2]; rfl
    obtain ⟨b1, b2⟩ := a1
    have b1' : (97 : Int) ≤ (n : Int) := by omega
    have b2' : (n : Int) ≤ 122 := by omega
    go_enter Try.func45, Try.ntmps45
    go_wp2_with (fail)
    go_ret
    exact ⟨rfl, rfl⟩
  · have h1 : (decide (97 ≤ n) && decide (n ≤ 122)) = false := by simpa using a1
    by_cases a2 : 65 ≤ n ∧ n ≤ 90
    · have hm : mc = true := by rw [hM.out, h1, decide_eq_true a2.1, decide_eq_true a2.2]; rfl
      obtain ⟨b1, b2⟩ := a2
      have b1' : (65 : Int) ≤ (n : Int) := by omega
      have b2' : (n : Int) ≤ 90 := by omega
      have b3' : ¬ (97 : Int) ≤ (n : Int) := by omega
      go_enter Try.func45, Try.ntmps45
      go_wp2_with (fail)
      go_ret
      exact ⟨rfl, rfl⟩
    · have h2 : (decide (65 ≤ n) && decide (n ≤ 90)) = false := by simpa using a2
      by_cases a3 : 48 ≤ n ∧ n ≤ 57
      · have hm : mc = true := by rw [hM.out, h1, h2, decide_eq_true a3.1, decide_eq_true a3.2]; rfl
        obtain ⟨b1, b2⟩ := a3
        have b1' : (48 : Int) ≤ (n : Int) := by omega
        have b2' : (n : Int) ≤ 57 := by omega
        have b3' : ¬ (97 : Int) ≤ (n : Int) := by omega
        have b4' : ¬ (65 : Int) ≤ (n : Int) := by omega
        go_enter Try.func45, Try.ntmps45
        go_wp2_with (fail)
        go_ret
        exact ⟨rfl, rfl⟩
      · have h3 : (decide (48 ≤ n) && decide (n ≤ 57)) = false := by simpa using a3
        have hm : mc = sg := by rw [hM.out, h1, h2, h3]; rfl
        have HM := Lib.hid hm
        clear hm h1 h2 h3
        by_cases c1 : (97 : Int) ≤ (n : Int)
        · have c2 : ¬ (n : Int) ≤ 122 := by omega
          have c3 : (65 : Int) ≤ (n : Int) := by omega
          have c4 : ¬ (n : Int) ≤ 90 := by omega
          have c5 : (48 : Int) ≤ (n : Int) := by omega
          have c6 : ¬ (n : Int) ≤ 57 := by omega
          clear a1 a2 a3 hlt
          go_enter Try.func45, Try.ntmps45
          go_wp2_with (go_at_call 50; refine hS.out.mono ?_; rintro e w' ⟨rfl, rfl⟩)
          go_ret
          exact ⟨by rw [HM.out, ← hI.out]; rfl, rfl⟩
        · by_cases c3 : (65 : Int) ≤ (n : Int)
          · have c4 : ¬ (n : Int) ≤ 90 := by omega
            have c5 : (48 : Int) ≤ (n : Int) := by omega
            have c6 : ¬ (n : Int) ≤ 57 := by omega
            clear a1 a2 a3 hlt
            go_enter Try.func45, Try.ntmps45
            go_wp2_with (go_at_call 50; refine hS.out.mono ?_; rintro e w' ⟨rfl, rfl⟩)
            go_ret
            exact ⟨by rw [HM.out, ← hI.out]; rfl, rfl⟩
          · by_cases c5 : (48 : Int) ≤ (n : Int)
            · have c6 : ¬ (n : Int) ≤ 57 := by omega
              clear a1 a2 a3 hlt
              go_enter Try.func45, Try.ntmps45
              go_wp2_with (go_at_call 50; refine hS.out.mono ?_; rintro e w' ⟨rfl, rfl⟩)
              go_ret
              exact ⟨by rw [HM.out, ← hI.out]; rfl, rfl⟩
            · clear a1 a2 a3 hlt
              go_enter Try.func45, Try.ntmps45
              go_wp2_with (go_at_call 50; refine hS.out.mono ?_; rintro e w' ⟨rfl, rfl⟩)
              go_ret
              exact ⟨by rw [HM.out, ← hI.out]; rfl, rfl⟩

end Go.Proofs.Ytpecbhimnpjkdaa
