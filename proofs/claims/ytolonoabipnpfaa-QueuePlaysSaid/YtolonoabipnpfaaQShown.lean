/- 'shown', 'pick', 'All' and what they leave. -/
import Derived.Test.YtolonoabipnpfaaQS
import Derived.Test.YtolonoabipnpfaaQI
import Derived.Test.YtolonoabipnpfaaQL
namespace Go.Proofs.Ytolonoabipnpfaa
open Go.RowKit Go.Sb

theorem all_S (w : World) (p : Option Addr) :
    Calls Try.prog 14 #[.pointer p] w fun e w' => e = .returned (.func (.func 36) #[] #[.pointer (some ⟨w.heap.size, 0, none⟩)]) ∧ w' = w.alloc (.cells #[.pointer p] 24) := by
  go_enter Try.func14, Try.ntmps14
  go_wp2_with (fail)
  go_ret
  exact ⟨rfl, rfl⟩

theorem all_I (w : World) (p : Option Addr) :
    Calls Try.prog 24 #[.pointer p] w fun e w' => e = .returned (.func (.func 43) #[] #[.pointer (some ⟨w.heap.size, 0, none⟩)]) ∧ w' = w.alloc (.cells #[.pointer p] 45) := by
  go_enter Try.func24, Try.ntmps24
  go_wp2_with (fail)
  go_ret
  exact ⟨rfl, rfl⟩

def PickPost (n : Int) (w : World) (e : Ending) (w' : World) : Prop := ∃ k : Int, e = .returned (.int .i64 k) ∧ (1 ≤ n → 0 ≤ k ∧ k < n) ∧ (n < 1 → k = 0) ∧ w = w'

set_option maxHeartbeats 400000 in
theorem pick_any (c n : Int) (w : World) (hc0 : -9223372036854775808 ≤ c) (hc1 : c ≤ 9223372036854775807) (hn : n ≤ 9223372036854775807) :
    Calls Try.prog 17 #[.int .i64 c, .int .i64 n] w (PickPost n w) := by
  by_cases hn1 : n < 1
  · go_enter Try.func17, Try.ntmps17
    go_wp2_with (fail)
    go_ret
    exact ⟨0, rfl, fun h => absurd hn1 (by omega), fun _ => rfl, rfl⟩
  · have hn2 : 1 ≤ n := by omega
    by_cases hc : c < 0
    · have h1 : 0 ≤ -(c + 1) := by omega
      have h2 : -(c + 1) ≤ 9223372036854775807 := by omega
      have hr := Int.emod_nonneg (-(c + 1)) (show n ≠ 0 by omega)
      have hr2 := Int.emod_lt_of_pos (-(c + 1)) (show 0 < n by omega)
      have HR := Lib.hid (And.intro hr hr2)
      clear hr hr2
      go_enter Try.func17, Try.ntmps17
      go_wp2_with (fail)
      go_ret
      refine ⟨_, rfl, fun _ => ?_, fun h => by omega, rfl⟩
      first
        | exact HR.out
        | (have e : -((c + 1).tmod n) = (-(c + 1)) % n := by rw [← Int.neg_tmod]; exact Int.tmod_eq_emod_of_nonneg h1
           rw [← e] at HR
           exact HR.out)
    · have hc2 : 0 ≤ c := by omega
      have hr := Int.emod_nonneg c (show n ≠ 0 by omega)
      have hr2 := Int.emod_lt_of_pos c (show 0 < n by omega)
      have HR := Lib.hid (And.intro hr hr2)
      clear hr hr2
      go_enter Try.func17, Try.ntmps17
      go_wp2_with (fail)
      go_ret
      refine ⟨_, rfl, fun _ => ?_, fun h => by omega, rfl⟩
      first
        | exact HR.out
        | (have e : -((c + 1).tmod n) = (-(c + 1)) % n := by rw [← Int.neg_tmod]; exact Int.tmod_eq_emod_of_nonneg h1
           rw [← e] at HR
           exact HR.out)

/-- Blocks from B on. -/
theorem own_ex {B : Nat} {w : World} (hB : B ≤ w.heap.size) {TQ TP : TypeId} {w' : World} {bq bm : Nat} {g : Int} {l : List Nd} (h : QRep TQ TP (ex (fun k => B ≤ k) w) w' bq g l bm) : QRep TQ TP (fun k => B ≤ k) w' bq g l bm :=
  h.mono fun _ _ hk => hk.elim id (fun h => Nat.le_trans hB h)

set_option maxRecDepth 100000 in
set_option maxHeartbeats 1000000 in
theorem shown_any (w : World) : Calls Try.prog 7 #[] w fun e w' => e = .returned (.bool true) ∧ Fr (fun _ => False) w w' := by
  have hnf := run_neq_func_nil (P := Try.prog) Try.underlying40
  go_enter Try.func7, Try.ntmps7
  go_wp2_with (fail)
  refine (QS.new_any (fun k => w.heap.size ≤ k) w (fun k h => h)).mono ?_
  rintro e w1 ⟨rfl, hq1, hf1⟩
  have HQ1 := Lib.hid hq1
  have HF1 := Lib.hid hf1
  clear hq1 hf1
  go_wp2_with (fail)
  refine (QS.join_any _ _ _ _ ⟨#[97]⟩ w1 _ HQ1.out (by decide) (by decide) (by simp)).mono ?_
  rintro e w2 ⟨rfl, ⟨b1, hb1, hq2⟩, hf2⟩
  have HQ2 := Lib.hid (own_ex HF1.out.size hq2)
  have HF2 := Lib.hid hf2
  clear hq2 hf2
  go_wp2_with (fail)
  refine (QS.join_any _ _ _ _ ⟨#[98]⟩ w2 _ HQ2.out (by decide) (by decide) (by simp)).mono ?_
  rintro e w3 ⟨rfl, ⟨b2, hb2, hq3⟩, hf3⟩
  have HQ3 := Lib.hid (own_ex (Nat.le_trans HF1.out.size HF2.out.size) hq3)
  have HF3 := Lib.hid hf3
  clear hq3 hf3
  go_wp2_with (fail)
  refine (QS.join_any _ _ _ _ ⟨#[99]⟩ w3 _ HQ3.out (by decide) (by decide) (by simp)).mono ?_
  rintro e w4 ⟨rfl, ⟨b3, hb3, hq4⟩, hf4⟩
  have HQ4 := Lib.hid (own_ex (Nat.le_trans HF1.out.size (Nat.le_trans HF2.out.size HF3.out.size)) hq4)
  have HF4 := Lib.hid hf4
  clear hq4 hf4
  go_wp2_with (fail)
  refine (QS.leave_any _ _ _ _ 2 b2 ⟨#[98]⟩ w4 _ [⟨b1, 1, .string ⟨#[97]⟩⟩] [⟨b3, 3, .string ⟨#[99]⟩⟩] HQ4.out (by simp)).mono ?_
  rintro e w5 ⟨rfl, hq5, hf5⟩
  have HQ5 := Lib.hid hq5
  have HF5 := Lib.hid hf5
  clear hq5 hf5
  go_wp2_with (fail)
  refine (QS.first_cons _ _ _ _ 1 b1 ⟨#[97]⟩ w5 _ HQ5.out).mono ?_
  rintro e w6 ⟨rfl, n6, rfl⟩
  go_wp2_with (fail)
  refine (QS.len_any _ _ _ _ _ _ (HQ5.out.drewN _)).mono ?_
  rintro e w6 ⟨rfl, rfl⟩
  go_wp2_with (fail)
  refine (all_S _ _).mono ?_
  rintro e w6 ⟨rfl, rfl⟩
  go_wp2_with (fail)
  go_ret
  exact ⟨rfl, (((((HF1.out.own HF2.out).own HF3.out).own HF4.out).own HF5.out).drewN _).alloc _⟩

end Go.Proofs.Ytolonoabipnpfaa
