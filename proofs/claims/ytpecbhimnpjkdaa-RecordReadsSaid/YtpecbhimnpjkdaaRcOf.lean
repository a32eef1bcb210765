/- Which numbers a kind of record has. -/
import Derived.Test.YtpecbhimnpjkdaaRcBase
namespace Go.Proofs.Ytpecbhimnpjkdaa
open Go.RowKit Go.Sb

def ofList (k : Int) : List Nat :=
  if k = 1 then [13, 14] else if k = 2 then [0, 1, 2, 3, 4, 5, 6, 7, 8, 9, 10, 11, 12] else if k = 3 then [0, 1, 2, 5, 6, 7, 8, 9, 10, 11, 12] else if k = 4 then [15] else []

def natV (n : Nat) : Value := .int .i64 (n : Int)

/-- a row of numbers just made -/
def OfPost (l : List Nat) (w : World) (e : Ending) (w' : World) : Prop :=
  e = .returned (.slice (some ⟨w.heap.size, 0, none⟩) l.length l.length) ∧ w' = w.alloc (.cells (l.map natV).toArray 3)

theorem of_1 (w : World) : Calls Try.prog 26 #[.int .i64 1] w (OfPost (ofList 1) w) := by
  go_enter Try.func26, Try.ntmps26
  go_wp2_with (fail)
  go_ret
  exact ⟨rfl, rfl⟩

theorem of_2 (w : World) : Calls Try.prog 26 #[.int .i64 2] w (OfPost (ofList 2) w) := by
  go_enter Try.func26, Try.ntmps26
  go_wp2_with (fail)
  go_ret
  exact ⟨rfl, rfl⟩

theorem of_3 (w : World) : Calls Try.prog 26 #[.int .i64 3] w (OfPost (ofList 3) w) := by
  go_enter Try.func26, Try.ntmps26
  go_wp2_with (fail)
  go_ret
  exact ⟨rfl, rfl⟩

theorem of_4 (w : World) : Calls Try.prog 26 #[.int .i64 4] w (OfPost (ofList 4) w) := by
  go_enter Try.func26, Try.ntmps26
  go_wp2_with (fail)
  go_ret
  exact ⟨rfl, rfl⟩

def Kind (k : Int) : Prop := k = 1 ∨ k = 2 ∨ k = 3 ∨ k = 4

theorem of_yes (k : Int) (w : World) (h : Kind k) : Calls Try.prog 26 #[.int .i64 k] w (OfPost (ofList k) w) := by
  rcases h with rfl | rfl | rfl | rfl
  · exact of_1 w
  · exact of_2 w
  · exact of_3 w
  · exact of_4 w

theorem of_no (k : Int) (w : World) (h : ¬ Kind k) : Calls Try.prog 26 #[.int .i64 k] w fun e w' => e = .returned (.slice none 0 0) ∧ w = w' := by
  unfold Kind at h
  have h1 : (k == 1) = false := by simp; omega
  have h2 : (k == 2) = false := by simp; omega
  have h3 : (k == 3) = false := by simp; omega
  have h4 : (k == 4) = false := by simp; omega
  clear h
  go_enter Try.func26, Try.ntmps26
  go_wp2_with (fail)
  go_ret
  exact ⟨rfl, rfl⟩

end Go.Proofs.Ytpecbhimnpjkdaa
