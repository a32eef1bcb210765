/- names.Valid, walked. -/
import Derived.Test.YtpecbhimnpjkdaaRcNames
namespace Go.Proofs.Ytpecbhimnpjkdaa
open Go.RowKit Go.Sb

def validB (s : ByteArray) : Bool := decide (1 ≤ s.size ∧ s.size ≤ 200) && (!(s.data.toList.getD 0 0 == 45) && s.data.toList.all mayC)

theorem ba_get (s : ByteArray) (i : Nat) (h : i < s.size) : s[i] = s.data.toList[i]'(by simpa using h) := rfl

def ValRel (s : ByteArray) (i : Value) : Prop := ∃ k : Nat, i = .int .i64 (k : Int) ∧ k ≤ s.size ∧ ∀ j (h : j < s.size), j < k → mayC (s[j]'h) = true

set_option maxRecDepth 100000 in
set_option maxHeartbeats 1000000 in
theorem valid_in (s : ByteArray) (w : World) (hl : s.size ≤ 200) (h1 : 0 < s.size) (h0 : ((s[0]'h1) == 45) = false) : Calls Try.prog 31 #[.string s] w fun e w' => e = .returned (.bool (validB s)) ∧ w = w' := by
  have hz : (((s[0]'h1).toNat : Int) == 45) = false := by
    simp only [beq_eq_false_iff_ne, ne_eq] at h0 ⊢
    intro h
    apply h0
    apply UInt8.toNat_inj.1
    have : (s[0]'h1).toNat = 45 := by omega
    rw [this]
    rfl
  have hl' : ¬ (200 : Int) < (s.size : Int) := by omega
  have h1' : ¬ (s.size : Int) < 1 := by omega
  have hv0 : (s.data.toList.getD 0 0 == 45) = false := by
    have : s.data.toList.getD 0 0 = s[0]'h1 := by
      rw [ba_get, List.getD_eq_getElem?_getD, List.getElem?_eq_getElem]
      rfl
    rw [this]
    exact h0
  have hdec : decide (1 ≤ s.size ∧ s.size ≤ 200) = true := decide_eq_true ⟨h1, hl⟩
  have HV0 := Lib.hid hv0
  have HD := Lib.hid hdec
  clear h0 hv0 hdec
  go_enter Try.func31, Try.ntmps31
  go_wp2_with (fail)
  go_loop [19] (fun i => ValRel s i) (fun i => s.size - (intOf i).toNat)
  case atStart => exact ⟨0, rfl, Nat.zero_le _, fun j h hj => absurd hj (by omega)⟩
  case round =>
    obtain ⟨k, rfl, hk, hall⟩ := hrel
    by_cases hlt : k < s.size
    · have HM := Lib.hid (may_any (s[k]'hlt) w)
      have HALL := Lib.hid hall
      clear hall
      go_wp2_with (fail)
      refine HM.out.mono ?_
      rintro e w1 ⟨rfl, rfl⟩
      cases hm : mayC (s[k]'hlt)
      · have he : validB s = false := by
          unfold validB
          have : s.data.toList.all mayC = false := by
            rw [List.all_eq_false]
            exact ⟨s[k]'hlt, by rw [ba_get]; exact List.getElem_mem _, by rw [hm]; simp⟩
          rw [this]
          simp
        go_wp2_with (fail)
        go_ret
        exact ⟨by rw [he]; rfl, rfl⟩
      · go_wp2_with (fail)
        go_round
        case rel =>
          refine ⟨k + 1, rfl, by omega, fun j h hj => ?_⟩
          by_cases hjk : j < k
          · exact HALL.out j h hjk
          · have : j = k := by omega
            subst this
            exact hm
        case measure => simp [intOf]; omega
    · have hkn : k = s.size := by omega
      subst hkn
      have he : validB s = true := by
        unfold validB
        rw [HD.out, HV0.out]
        have : s.data.toList.all mayC = true := by
          rw [List.all_eq_true]
          intro x hx
          obtain ⟨j, hj, rfl⟩ := List.getElem_of_mem hx
          have := hall j (by simpa using hj) (by simpa using hj)
          rw [ba_get] at this
          exact this
        rw [this]
        rfl
      clear hall
      go_wp2_with (fail)
      go_ret
      exact ⟨rfl, rfl⟩

end Go.Proofs.Ytpecbhimnpjkdaa
