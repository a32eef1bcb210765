/- The record package's small functions: within, CheckConfig. -/
import Derived.Test.YtpecbhimnpjkdaaRows
import Derived.Test.YtpecbhimnpjkdaaBytes
namespace Go.Proofs.Ytpecbhimnpjkdaa
open Go.RowKit Go.Sb

def inB3 (n l m : Int) : Bool := decide (l ≤ n) && decide (n ≤ m)

theorem inB3_true {n l m : Int} (h : inB3 n l m = true) : l ≤ n ∧ n ≤ m := by
  unfold inB3 at h
  simpa using h

theorem within_any (n l m : Int) (w : World) : Calls Try.prog 34 #[.int .i64 n, .int .i64 l, .int .i64 m] w fun e w' => e = .returned (.bool (inB3 n l m)) ∧ w = w' := by
  by_cases h1 : l ≤ n
  · by_cases h2 : n ≤ m
    · have hv : inB3 n l m = true := by unfold inB3; rw [decide_eq_true h1, decide_eq_true h2]; rfl
      rw [hv]
      go_enter Try.func34, Try.ntmps34
      go_wp2_with (fail)
      go_ret
      exact ⟨rfl, rfl⟩
    · have hv : inB3 n l m = false := by unfold inB3; rw [decide_eq_true h1, decide_eq_false h2]; rfl
      rw [hv]
      go_enter Try.func34, Try.ntmps34
      go_wp2_with (fail)
      go_ret
      exact ⟨rfl, rfl⟩
  · have hv : inB3 n l m = false := by unfold inB3; rw [decide_eq_false h1]; rfl
    rw [hv]
    go_enter Try.func34, Try.ntmps34
    go_wp2_with (fail)
    go_ret
    exact ⟨rfl, rfl⟩

theorem within_anyR (n l m : Int) (w : World) : Calls Try.prog 35 #[.int .i64 n, .int .i64 l, .int .i64 m] w fun e w' => e = .returned (.bool (inB3 n l m)) ∧ w = w' := by
  by_cases h1 : l ≤ n
  · by_cases h2 : n ≤ m
    · have hv : inB3 n l m = true := by unfold inB3; rw [decide_eq_true h1, decide_eq_true h2]; rfl
      rw [hv]
      go_enter Try.func35, Try.ntmps35
      go_wp2_with (fail)
      go_ret
      exact ⟨rfl, rfl⟩
    · have hv : inB3 n l m = false := by unfold inB3; rw [decide_eq_true h1, decide_eq_false h2]; rfl
      rw [hv]
      go_enter Try.func35, Try.ntmps35
      go_wp2_with (fail)
      go_ret
      exact ⟨rfl, rfl⟩
  · have hv : inB3 n l m = false := by unfold inB3; rw [decide_eq_false h1]; rfl
    rw [hv]
    go_enter Try.func35, Try.ntmps35
    go_wp2_with (fail)
    go_ret
    exact ⟨rfl, rfl⟩

def configB (a b c : Int) : Bool := inB3 a 1 65535 && inB3 b 128 1048576 && inB3 c 1024 67108864 && decide (4 * b ≤ c)
def cfgE (a b c : Int) : Int := if configB a b c then 0 else 103

set_option maxRecDepth 100000 in
theorem config_any (a b c : Int) (w : World) :
    Calls Try.prog 15 #[.agg #[.int .i64 a, .int .i64 b, .int .i64 c]] w fun e w' => e = .returned (.int .i64 (cfgE a b c)) ∧ Fr (fun _ => False) w w' := by
  go_enter Try.func15, Try.ntmps15
  go_wp2_with (fail)
  refine (within_any a 1 65535 _).mono ?_
  rintro e w1 ⟨rfl, rfl⟩
  cases h1 : inB3 a 1 65535
  · have he : cfgE a b c = 103 := by unfold cfgE configB; rw [h1]; rfl
    go_wp2_with (fail)
    go_ret
    exact ⟨by rw [he]; rfl, (Fr.refl _ _).alloc _⟩
  · go_wp2_with (fail)
    refine (within_any b 128 1048576 _).mono ?_
    rintro e w1 ⟨rfl, rfl⟩
    cases h2 : inB3 b 128 1048576
    · have he : cfgE a b c = 103 := by unfold cfgE configB; rw [h1, h2]; rfl
      go_wp2_with (fail)
      go_ret
      exact ⟨by rw [he]; rfl, (Fr.refl _ _).alloc _⟩
    · go_wp2_with (fail)
      refine (within_any c 1024 67108864 _).mono ?_
      rintro e w1 ⟨rfl, rfl⟩
      cases h3 : inB3 c 1024 67108864
      · have he : cfgE a b c = 103 := by unfold cfgE configB; rw [h1, h2, h3]; rfl
        go_wp2_with (fail)
        go_ret
        exact ⟨by rw [he]; rfl, (Fr.refl _ _).alloc _⟩
      · obtain ⟨hb0, hb1⟩ := inB3_true h2
        by_cases h4 : 4 * b ≤ c
        · have he : cfgE a b c = 0 := by unfold cfgE configB; rw [h1, h2, h3, decide_eq_true h4]; rfl
          go_wp2_with (fail)
          go_ret
          exact ⟨by rw [he]; rfl, (Fr.refl _ _).alloc _⟩
        · have he : cfgE a b c = 103 := by unfold cfgE configB; rw [h1, h2, h3, decide_eq_false h4]; rfl
          have h5 : decide (4 * b ≤ c) = false := decide_eq_false h4
          go_wp2_with (fail)
          go_ret
          exact ⟨by rw [he]; rfl, (Fr.refl _ _).alloc _⟩

set_option maxRecDepth 100000 in
theorem config_anyR (a b c : Int) (w : World) :
    Calls Try.prog 16 #[.agg #[.int .i64 a, .int .i64 b, .int .i64 c]] w fun e w' => e = .returned (.int .i64 (cfgE a b c)) ∧ Fr (fun _ => False) w w' := by
  go_enter Try.func16, Try.ntmps16
  go_wp2_with (fail)
  refine (within_anyR a 1 65535 _).mono ?_
  rintro e w1 ⟨rfl, rfl⟩
  cases h1 : inB3 a 1 65535
  · have he : cfgE a b c = 103 := by unfold cfgE configB; rw [h1]; rfl
    go_wp2_with (fail)
    go_ret
    exact ⟨by rw [he]; rfl, (Fr.refl _ _).alloc _⟩
  · go_wp2_with (fail)
    refine (within_anyR b 128 1048576 _).mono ?_
    rintro e w1 ⟨rfl, rfl⟩
    cases h2 : inB3 b 128 1048576
    · have he : cfgE a b c = 103 := by unfold cfgE configB; rw [h1, h2]; rfl
      go_wp2_with (fail)
      go_ret
      exact ⟨by rw [he]; rfl, (Fr.refl _ _).alloc _⟩
    · go_wp2_with (fail)
      refine (within_anyR c 1024 67108864 _).mono ?_
      rintro e w1 ⟨rfl, rfl⟩
      cases h3 : inB3 c 1024 67108864
      · have he : cfgE a b c = 103 := by unfold cfgE configB; rw [h1, h2, h3]; rfl
        go_wp2_with (fail)
        go_ret
        exact ⟨by rw [he]; rfl, (Fr.refl _ _).alloc _⟩
      · obtain ⟨hb0, hb1⟩ := inB3_true h2
        by_cases h4 : 4 * b ≤ c
        · have he : cfgE a b c = 0 := by unfold cfgE configB; rw [h1, h2, h3, decide_eq_true h4]; rfl
          go_wp2_with (fail)
          go_ret
          exact ⟨by rw [he]; rfl, (Fr.refl _ _).alloc _⟩
        · have he : cfgE a b c = 103 := by unfold cfgE configB; rw [h1, h2, h3, decide_eq_false h4]; rfl
          have h5 : decide (4 * b ≤ c) = false := decide_eq_false h4
          go_wp2_with (fail)
          go_ret
          exact ⟨by rw [he]; rfl, (Fr.refl _ _).alloc _⟩

end Go.Proofs.Ytpecbhimnpjkdaa
