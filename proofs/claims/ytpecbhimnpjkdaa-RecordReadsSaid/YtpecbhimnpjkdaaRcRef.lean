/- The document's small functions: counts, short, lasting, blank, changes. (Printed by rcref.py.) -/
import Derived.Test.YtpecbhimnpjkdaaRcSame
import Derived.Test.YtpecbhimnpjkdaaRcValidR
namespace Go.Proofs.Ytpecbhimnpjkdaa
open Go.RowKit Go.Sb

def zB (ns : List Int) (i : Nat) : Bool := at0 ns i == 0
def shortB (ns : List Int) (tube : ByteArray) (bn : Nat) : Bool := zB ns 3 && (zB ns 4 && (tube.toList.isEmpty && ((bn : Int) == 0)))
def lastB (ns : List Int) (tube : ByteArray) (bn : Nat) : Bool := inB3 (at0 ns 3) 1 4294967295 && (inB3 (at0 ns 4) 0 1099511627776 && (validB tube && decide ((bn : Int) ≤ 65535)))
def blankB (ns : List Int) (tube : ByteArray) (bn : Nat) : Bool := zB ns 0 && (zB ns 1 && (zB ns 2 && (zB ns 5 && (zB ns 6 && (zB ns 7 && ((zB ns 8 && (zB ns 9 && (zB ns 10 && (zB ns 11 && zB ns 12)))) && shortB ns tube bn))))))
def cntB (ns : List Int) : Bool := inB3 (at0 ns 8) 0 4611686018427387903 && (inB3 (at0 ns 9) 0 4611686018427387903 && (inB3 (at0 ns 10) 0 4611686018427387903 && (inB3 (at0 ns 11) 0 4611686018427387903 && inB3 (at0 ns 12) 0 4611686018427387903)))

theorem in00 (n : Int) : inB3 n 0 0 = (n == 0) := by
  unfold inB3
  by_cases h : n = 0
  · subst h; rfl
  · have hb : (n == 0) = false := by simpa using h
    rw [hb]
    simp only [Bool.and_eq_false_iff, decide_eq_false_iff_not]
    omega

theorem zB_eq (ns : List Int) (i : Nat) : zB ns i = (at0 ns i == 0) := rfl

set_option maxRecDepth 100000 in
set_option maxHeartbeats 2000000 in
theorem counts_any (ns : List Int) (w : World) : Calls Try.prog 47 #[.agg #[.int .i64 (at0 ns 8), .int .i64 (at0 ns 9), .int .i64 (at0 ns 10), .int .i64 (at0 ns 11), .int .i64 (at0 ns 12)]] w fun e w' => e = .returned (.bool (cntB ns)) ∧ Fr (fun _ => False) w w' := by
  cases h8 : inB3 (at0 ns 8) 0 4611686018427387903
  · have HX : Hid (cntB ns = false) := Lib.hid (by simp [cntB, h8])
    go_enter Try.func47, Try.ntmps47
    go_wp2_with ((go_at_call 35; refine (within_anyR _ _ _ _).mono ?_; rintro e w1 ⟨rfl, rfl⟩; first | rw [h8]))
    go_ret
    exact ⟨by rw [HX.out]; rfl, (Fr.refl _ _).alloc _⟩
  · cases h9 : inB3 (at0 ns 9) 0 4611686018427387903
    · have HX : Hid (cntB ns = false) := Lib.hid (by simp [cntB, h8, h9])
      go_enter Try.func47, Try.ntmps47
      go_wp2_with ((go_at_call 35; refine (within_anyR _ _ _ _).mono ?_; rintro e w1 ⟨rfl, rfl⟩; first | rw [h8] | rw [h9]))
      go_ret
      exact ⟨by rw [HX.out]; rfl, (Fr.refl _ _).alloc _⟩
    · cases h10 : inB3 (at0 ns 10) 0 4611686018427387903
      · have HX : Hid (cntB ns = false) := Lib.hid (by simp [cntB, h8, h9, h10])
        go_enter Try.func47, Try.ntmps47
        go_wp2_with ((go_at_call 35; refine (within_anyR _ _ _ _).mono ?_; rintro e w1 ⟨rfl, rfl⟩; first | rw [h8] | rw [h9] | rw [h10]))
        go_ret
        exact ⟨by rw [HX.out]; rfl, (Fr.refl _ _).alloc _⟩
      · cases h11 : inB3 (at0 ns 11) 0 4611686018427387903
        · have HX : Hid (cntB ns = false) := Lib.hid (by simp [cntB, h8, h9, h10, h11])
          go_enter Try.func47, Try.ntmps47
          go_wp2_with ((go_at_call 35; refine (within_anyR _ _ _ _).mono ?_; rintro e w1 ⟨rfl, rfl⟩; first | rw [h8] | rw [h9] | rw [h10] | rw [h11]))
          go_ret
          exact ⟨by rw [HX.out]; rfl, (Fr.refl _ _).alloc _⟩
        · cases h12 : inB3 (at0 ns 12) 0 4611686018427387903
          · have HX : Hid (cntB ns = false) := Lib.hid (by simp [cntB, h8, h9, h10, h11, h12])
            go_enter Try.func47, Try.ntmps47
            go_wp2_with ((go_at_call 35; refine (within_anyR _ _ _ _).mono ?_; rintro e w1 ⟨rfl, rfl⟩; first | rw [h8] | rw [h9] | rw [h10] | rw [h11] | rw [h12]))
            go_ret
            exact ⟨by rw [HX.out]; rfl, (Fr.refl _ _).alloc _⟩
          · have HX : Hid (cntB ns = true) := Lib.hid (by simp [cntB, h8, h9, h10, h11, h12])
            go_enter Try.func47, Try.ntmps47
            go_wp2_with ((go_at_call 35; refine (within_anyR _ _ _ _).mono ?_; rintro e w1 ⟨rfl, rfl⟩; first | rw [h8] | rw [h9] | rw [h10] | rw [h11] | rw [h12]))
            go_ret
            exact ⟨by rw [HX.out]; rfl, (Fr.refl _ _).alloc _⟩

set_option maxRecDepth 100000 in
set_option maxHeartbeats 2000000 in
theorem short_any (ns : List Int) (tube : ByteArray) (a : Option Addr) (bn c : Nat) (w : World) : Calls Try.prog 39 #[.agg (jobC ns tube (.slice a bn c))] w fun e w' => e = .returned (.bool (shortB ns tube bn)) ∧ Fr (fun _ => False) w w' := by
  have HG := Lib.hid (heap_alloc_eq w (.cells (jobC ns tube (.slice a bn c)) 27))
  have HF := Lib.hid ((Fr.refl (fun _ => False) w).alloc (.cells (jobC ns tube (.slice a bn c)) 27))
  have c0 : (w.alloc (.cells (jobC ns tube (.slice a bn c)) 27)).cell? ⟨w.heap.size, 0, none⟩ = some (.int .i64 (at0 ns 0)) := cell_is HG.out 0 rfl
  have c1 : (w.alloc (.cells (jobC ns tube (.slice a bn c)) 27)).cell? ⟨w.heap.size, 1, none⟩ = some (.int .i64 (at0 ns 1)) := cell_is HG.out 1 rfl
  have c2 : (w.alloc (.cells (jobC ns tube (.slice a bn c)) 27)).cell? ⟨w.heap.size, 2, none⟩ = some (.int .i64 (at0 ns 2)) := cell_is HG.out 2 rfl
  have c3 : (w.alloc (.cells (jobC ns tube (.slice a bn c)) 27)).cell? ⟨w.heap.size, 3, none⟩ = some (.int .i64 (at0 ns 3)) := cell_is HG.out 3 rfl
  have c4 : (w.alloc (.cells (jobC ns tube (.slice a bn c)) 27)).cell? ⟨w.heap.size, 4, none⟩ = some (.int .i64 (at0 ns 4)) := cell_is HG.out 4 rfl
  have c5 : (w.alloc (.cells (jobC ns tube (.slice a bn c)) 27)).cell? ⟨w.heap.size, 5, none⟩ = some (.int .i64 (at0 ns 5)) := cell_is HG.out 5 rfl
  have c6 : (w.alloc (.cells (jobC ns tube (.slice a bn c)) 27)).cell? ⟨w.heap.size, 6, none⟩ = some (.int .i64 (at0 ns 6)) := cell_is HG.out 6 rfl
  have c7 : (w.alloc (.cells (jobC ns tube (.slice a bn c)) 27)).cell? ⟨w.heap.size, 7, none⟩ = some (.int .i64 (at0 ns 7)) := cell_is HG.out 7 rfl
  have c13 : (w.alloc (.cells (jobC ns tube (.slice a bn c)) 27)).cell? ⟨w.heap.size, 13, none⟩ = some (.string tube) := cell_is HG.out 13 rfl
  have c14 : (w.alloc (.cells (jobC ns tube (.slice a bn c)) 27)).cell? ⟨w.heap.size, 14, none⟩ = some (.slice a bn c) := cell_is HG.out 14 rfl
  generalize jobC ns tube (.slice a bn c) = jc at *
  cases h3 : (at0 ns 3 == 0)
  · have HX : Hid (shortB ns tube bn = false) := Lib.hid (by simp only [shortB, zB, h3, Bool.false_and])
    go_enter Try.func39, Try.ntmps39
    go_wp2_with (fail)
    go_ret
    exact ⟨by rw [HX.out]; rfl, HF.out⟩
  · cases h4 : (at0 ns 4 == 0)
    · have HX : Hid (shortB ns tube bn = false) := Lib.hid (by simp only [shortB, zB, h3, h4, Bool.false_and, Bool.and_false])
      go_enter Try.func39, Try.ntmps39
      go_wp2_with (fail)
      go_ret
      exact ⟨by rw [HX.out]; rfl, HF.out⟩
    · cases ht : tube.toList.isEmpty
      · have HX : Hid (shortB ns tube bn = false) := Lib.hid (by simp only [shortB, zB, h3, h4, ht, Bool.false_and, Bool.and_false])
        go_enter Try.func39, Try.ntmps39
        go_wp2_with (fail)
        go_ret
        exact ⟨by rw [HX.out]; rfl, HF.out⟩
      · cases hb : ((bn : Int) == 0)
        · have HX : Hid (shortB ns tube bn = false) := Lib.hid (by simp only [shortB, zB, h3, h4, ht, hb, Bool.and_false])
          go_enter Try.func39, Try.ntmps39
          go_wp2_with (fail)
          go_ret
          exact ⟨by rw [HX.out]; rfl, HF.out⟩
        · have HX : Hid (shortB ns tube bn = true) := Lib.hid (by simp only [shortB, zB, h3, h4, ht, hb, Bool.and_true])
          go_enter Try.func39, Try.ntmps39
          go_wp2_with (fail)
          go_ret
          exact ⟨by rw [HX.out]; rfl, HF.out⟩

set_option maxRecDepth 100000 in
set_option maxHeartbeats 2000000 in
theorem lasting_any (ns : List Int) (tube : ByteArray) (a : Option Addr) (bn c : Nat) (w : World) : Calls Try.prog 38 #[.agg (jobC ns tube (.slice a bn c))] w fun e w' => e = .returned (.bool (lastB ns tube bn)) ∧ Fr (fun _ => False) w w' := by
  have HG := Lib.hid (heap_alloc_eq w (.cells (jobC ns tube (.slice a bn c)) 27))
  have HF := Lib.hid ((Fr.refl (fun _ => False) w).alloc (.cells (jobC ns tube (.slice a bn c)) 27))
  have c0 : (w.alloc (.cells (jobC ns tube (.slice a bn c)) 27)).cell? ⟨w.heap.size, 0, none⟩ = some (.int .i64 (at0 ns 0)) := cell_is HG.out 0 rfl
  have c1 : (w.alloc (.cells (jobC ns tube (.slice a bn c)) 27)).cell? ⟨w.heap.size, 1, none⟩ = some (.int .i64 (at0 ns 1)) := cell_is HG.out 1 rfl
  have c2 : (w.alloc (.cells (jobC ns tube (.slice a bn c)) 27)).cell? ⟨w.heap.size, 2, none⟩ = some (.int .i64 (at0 ns 2)) := cell_is HG.out 2 rfl
  have c3 : (w.alloc (.cells (jobC ns tube (.slice a bn c)) 27)).cell? ⟨w.heap.size, 3, none⟩ = some (.int .i64 (at0 ns 3)) := cell_is HG.out 3 rfl
  have c4 : (w.alloc (.cells (jobC ns tube (.slice a bn c)) 27)).cell? ⟨w.heap.size, 4, none⟩ = some (.int .i64 (at0 ns 4)) := cell_is HG.out 4 rfl
  have c5 : (w.alloc (.cells (jobC ns tube (.slice a bn c)) 27)).cell? ⟨w.heap.size, 5, none⟩ = some (.int .i64 (at0 ns 5)) := cell_is HG.out 5 rfl
  have c6 : (w.alloc (.cells (jobC ns tube (.slice a bn c)) 27)).cell? ⟨w.heap.size, 6, none⟩ = some (.int .i64 (at0 ns 6)) := cell_is HG.out 6 rfl
  have c7 : (w.alloc (.cells (jobC ns tube (.slice a bn c)) 27)).cell? ⟨w.heap.size, 7, none⟩ = some (.int .i64 (at0 ns 7)) := cell_is HG.out 7 rfl
  have c13 : (w.alloc (.cells (jobC ns tube (.slice a bn c)) 27)).cell? ⟨w.heap.size, 13, none⟩ = some (.string tube) := cell_is HG.out 13 rfl
  have c14 : (w.alloc (.cells (jobC ns tube (.slice a bn c)) 27)).cell? ⟨w.heap.size, 14, none⟩ = some (.slice a bn c) := cell_is HG.out 14 rfl
  generalize jobC ns tube (.slice a bn c) = jc at *
  cases h3 : inB3 (at0 ns 3) 1 4294967295
  · have HX : Hid (lastB ns tube bn = false) := Lib.hid (by simp only [lastB, h3, Bool.false_and])
    go_enter Try.func38, Try.ntmps38
    go_wp2_with (first | (go_at_call 35; refine (within_anyR _ _ _ _).mono ?_; rintro e w1 ⟨rfl, rfl⟩; first | rw [h3]))
    go_ret
    exact ⟨by rw [HX.out]; rfl, HF.out⟩
  · cases h4 : inB3 (at0 ns 4) 0 1099511627776
    · have HX : Hid (lastB ns tube bn = false) := Lib.hid (by simp only [lastB, h3, h4, Bool.false_and, Bool.and_false])
      go_enter Try.func38, Try.ntmps38
      go_wp2_with (first | (go_at_call 35; refine (within_anyR _ _ _ _).mono ?_; rintro e w1 ⟨rfl, rfl⟩; first | rw [h3] | rw [h4]))
      go_ret
      exact ⟨by rw [HX.out]; rfl, HF.out⟩
    · cases ht : validB tube
      · have HX : Hid (lastB ns tube bn = false) := Lib.hid (by simp only [lastB, h3, h4, ht, Bool.false_and, Bool.and_false])
        go_enter Try.func38, Try.ntmps38
        go_wp2_with (first | (go_at_call 35; refine (within_anyR _ _ _ _).mono ?_; rintro e w1 ⟨rfl, rfl⟩; first | rw [h3] | rw [h4]) | (go_at_call 48; refine (valid_anyR _ _).mono ?_; rintro e w1 ⟨rfl, rfl⟩; rw [ht]))
        go_ret
        exact ⟨by rw [HX.out]; rfl, HF.out⟩
      · cases hb : decide ((bn : Int) ≤ 65535)
        · have HX : Hid (lastB ns tube bn = false) := Lib.hid (by simp only [lastB, h3, h4, ht, hb, Bool.and_false])
          have hbn : (65535 : Int) < bn := by simpa using hb
          go_enter Try.func38, Try.ntmps38
          go_wp2_with (first | (go_at_call 35; refine (within_anyR _ _ _ _).mono ?_; rintro e w1 ⟨rfl, rfl⟩; first | rw [h3] | rw [h4]) | (go_at_call 48; refine (valid_anyR _ _).mono ?_; rintro e w1 ⟨rfl, rfl⟩; rw [ht]))
          go_ret
          exact ⟨by rw [HX.out]; rfl, HF.out⟩
        · have HX : Hid (lastB ns tube bn = true) := Lib.hid (by simp only [lastB, h3, h4, ht, hb, Bool.and_true])
          have hbn : (bn : Int) ≤ 65535 := by simpa using hb
          go_enter Try.func38, Try.ntmps38
          go_wp2_with (first | (go_at_call 35; refine (within_anyR _ _ _ _).mono ?_; rintro e w1 ⟨rfl, rfl⟩; first | rw [h3] | rw [h4]) | (go_at_call 48; refine (valid_anyR _ _).mono ?_; rintro e w1 ⟨rfl, rfl⟩; rw [ht]))
          go_ret
          exact ⟨by rw [HX.out]; rfl, HF.out⟩

set_option maxRecDepth 100000 in
set_option maxHeartbeats 2000000 in
theorem blank_any (ns : List Int) (tube : ByteArray) (a : Option Addr) (bn c : Nat) (w : World) : Calls Try.prog 36 #[.agg (jobC ns tube (.slice a bn c))] w fun e w' => e = .returned (.bool (blankB ns tube bn)) ∧ Fr (fun _ => False) w w' := by
  have HG := Lib.hid (heap_alloc_eq w (.cells (jobC ns tube (.slice a bn c)) 27))
  have HF := Lib.hid ((Fr.refl (fun _ => False) w).alloc (.cells (jobC ns tube (.slice a bn c)) 27))
  have c0 : (w.alloc (.cells (jobC ns tube (.slice a bn c)) 27)).cell? ⟨w.heap.size, 0, none⟩ = some (.int .i64 (at0 ns 0)) := cell_is HG.out 0 rfl
  have c1 : (w.alloc (.cells (jobC ns tube (.slice a bn c)) 27)).cell? ⟨w.heap.size, 1, none⟩ = some (.int .i64 (at0 ns 1)) := cell_is HG.out 1 rfl
  have c2 : (w.alloc (.cells (jobC ns tube (.slice a bn c)) 27)).cell? ⟨w.heap.size, 2, none⟩ = some (.int .i64 (at0 ns 2)) := cell_is HG.out 2 rfl
  have c3 : (w.alloc (.cells (jobC ns tube (.slice a bn c)) 27)).cell? ⟨w.heap.size, 3, none⟩ = some (.int .i64 (at0 ns 3)) := cell_is HG.out 3 rfl
  have c4 : (w.alloc (.cells (jobC ns tube (.slice a bn c)) 27)).cell? ⟨w.heap.size, 4, none⟩ = some (.int .i64 (at0 ns 4)) := cell_is HG.out 4 rfl
  have c5 : (w.alloc (.cells (jobC ns tube (.slice a bn c)) 27)).cell? ⟨w.heap.size, 5, none⟩ = some (.int .i64 (at0 ns 5)) := cell_is HG.out 5 rfl
  have c6 : (w.alloc (.cells (jobC ns tube (.slice a bn c)) 27)).cell? ⟨w.heap.size, 6, none⟩ = some (.int .i64 (at0 ns 6)) := cell_is HG.out 6 rfl
  have c7 : (w.alloc (.cells (jobC ns tube (.slice a bn c)) 27)).cell? ⟨w.heap.size, 7, none⟩ = some (.int .i64 (at0 ns 7)) := cell_is HG.out 7 rfl
  have c13 : (w.alloc (.cells (jobC ns tube (.slice a bn c)) 27)).cell? ⟨w.heap.size, 13, none⟩ = some (.string tube) := cell_is HG.out 13 rfl
  have c14 : (w.alloc (.cells (jobC ns tube (.slice a bn c)) 27)).cell? ⟨w.heap.size, 14, none⟩ = some (.slice a bn c) := cell_is HG.out 14 rfl
  have HR := Lib.hid (cnt_range HG.out)
  have HSH : Hid (∀ w' : World, Calls Try.prog 39 #[.agg (jobC ns tube (.slice a bn c))] w' fun e w'' => e = .returned (.bool (shortB ns tube bn)) ∧ Fr (fun _ => False) w' w'') := Lib.hid (fun w' => short_any ns tube a bn c w')
  have hi27 : (Try.prog.info? 27).map (·.size) = some (jobC ns tube (.slice a bn c)).size := info27s
  generalize jobC ns tube (.slice a bn c) = jc at *
  cases h0 : (at0 ns 0 == 0)
  · have HX : Hid (blankB ns tube bn = false) := Lib.hid (by simp only [blankB, zB, h0, Bool.false_and])
    go_enter Try.func36, Try.ntmps36
    go_wp2_with (first | ((refine load_guard _ _ rfl ?_); refine wpList_load_mid_w (by rfl) 25 _ rfl w.heap.size 8 rfl _ _ HR.out Try.underlying25 rfl info25s ?_))
    go_ret
    exact ⟨by rw [HX.out]; rfl, HF.out⟩
  · cases h1 : (at0 ns 1 == 0)
    · have HX : Hid (blankB ns tube bn = false) := Lib.hid (by simp only [blankB, zB, h0, h1, Bool.false_and, Bool.and_false])
      go_enter Try.func36, Try.ntmps36
      go_wp2_with (first | ((refine load_guard _ _ rfl ?_); refine wpList_load_mid_w (by rfl) 25 _ rfl w.heap.size 8 rfl _ _ HR.out Try.underlying25 rfl info25s ?_))
      go_ret
      exact ⟨by rw [HX.out]; rfl, HF.out⟩
    · cases h2 : (at0 ns 2 == 0)
      · have HX : Hid (blankB ns tube bn = false) := Lib.hid (by simp only [blankB, zB, h0, h1, h2, Bool.false_and, Bool.and_false])
        go_enter Try.func36, Try.ntmps36
        go_wp2_with (first | ((refine load_guard _ _ rfl ?_); refine wpList_load_mid_w (by rfl) 25 _ rfl w.heap.size 8 rfl _ _ HR.out Try.underlying25 rfl info25s ?_))
        go_ret
        exact ⟨by rw [HX.out]; rfl, HF.out⟩
      · cases h5 : (at0 ns 5 == 0)
        · have HX : Hid (blankB ns tube bn = false) := Lib.hid (by simp only [blankB, zB, h0, h1, h2, h5, Bool.false_and, Bool.and_false])
          go_enter Try.func36, Try.ntmps36
          go_wp2_with (first | ((refine load_guard _ _ rfl ?_); refine wpList_load_mid_w (by rfl) 25 _ rfl w.heap.size 8 rfl _ _ HR.out Try.underlying25 rfl info25s ?_))
          go_ret
          exact ⟨by rw [HX.out]; rfl, HF.out⟩
        · cases h6 : (at0 ns 6 == 0)
          · have HX : Hid (blankB ns tube bn = false) := Lib.hid (by simp only [blankB, zB, h0, h1, h2, h5, h6, Bool.false_and, Bool.and_false])
            go_enter Try.func36, Try.ntmps36
            go_wp2_with (first | ((refine load_guard _ _ rfl ?_); refine wpList_load_mid_w (by rfl) 25 _ rfl w.heap.size 8 rfl _ _ HR.out Try.underlying25 rfl info25s ?_))
            go_ret
            exact ⟨by rw [HX.out]; rfl, HF.out⟩
          · cases h7 : (at0 ns 7 == 0)
            · have HX : Hid (blankB ns tube bn = false) := Lib.hid (by simp only [blankB, zB, h0, h1, h2, h5, h6, h7, Bool.false_and, Bool.and_false])
              go_enter Try.func36, Try.ntmps36
              go_wp2_with (first | ((refine load_guard _ _ rfl ?_); refine wpList_load_mid_w (by rfl) 25 _ rfl w.heap.size 8 rfl _ _ HR.out Try.underlying25 rfl info25s ?_))
              go_ret
              exact ⟨by rw [HX.out]; rfl, HF.out⟩
            · cases h8 : (at0 ns 8 == 0)
              · have HX : Hid (blankB ns tube bn = false) := Lib.hid (by simp only [blankB, zB, h0, h1, h2, h5, h6, h7, h8, Bool.false_and, Bool.and_false])
                go_enter Try.func36, Try.ntmps36
                go_wp2_with (first | ((refine load_guard _ _ rfl ?_); refine wpList_load_mid_w (by rfl) 25 _ rfl w.heap.size 8 rfl _ _ HR.out Try.underlying25 rfl info25s ?_))
                go_ret
                exact ⟨by rw [HX.out]; rfl, HF.out⟩
              · cases h9 : (at0 ns 9 == 0)
                · have HX : Hid (blankB ns tube bn = false) := Lib.hid (by simp only [blankB, zB, h0, h1, h2, h5, h6, h7, h8, h9, Bool.false_and, Bool.and_false])
                  go_enter Try.func36, Try.ntmps36
                  go_wp2_with (first | ((refine load_guard _ _ rfl ?_); refine wpList_load_mid_w (by rfl) 25 _ rfl w.heap.size 8 rfl _ _ HR.out Try.underlying25 rfl info25s ?_))
                  go_ret
                  exact ⟨by rw [HX.out]; rfl, HF.out⟩
                · cases h10 : (at0 ns 10 == 0)
                  · have HX : Hid (blankB ns tube bn = false) := Lib.hid (by simp only [blankB, zB, h0, h1, h2, h5, h6, h7, h8, h9, h10, Bool.false_and, Bool.and_false])
                    go_enter Try.func36, Try.ntmps36
                    go_wp2_with (first | ((refine load_guard _ _ rfl ?_); refine wpList_load_mid_w (by rfl) 25 _ rfl w.heap.size 8 rfl _ _ HR.out Try.underlying25 rfl info25s ?_))
                    go_ret
                    exact ⟨by rw [HX.out]; rfl, HF.out⟩
                  · cases h11 : (at0 ns 11 == 0)
                    · have HX : Hid (blankB ns tube bn = false) := Lib.hid (by simp only [blankB, zB, h0, h1, h2, h5, h6, h7, h8, h9, h10, h11, Bool.false_and, Bool.and_false])
                      go_enter Try.func36, Try.ntmps36
                      go_wp2_with (first | ((refine load_guard _ _ rfl ?_); refine wpList_load_mid_w (by rfl) 25 _ rfl w.heap.size 8 rfl _ _ HR.out Try.underlying25 rfl info25s ?_))
                      go_ret
                      exact ⟨by rw [HX.out]; rfl, HF.out⟩
                    · cases h12 : (at0 ns 12 == 0)
                      · have HX : Hid (blankB ns tube bn = false) := Lib.hid (by simp only [blankB, zB, h0, h1, h2, h5, h6, h7, h8, h9, h10, h11, h12, Bool.false_and, Bool.and_false])
                        go_enter Try.func36, Try.ntmps36
                        go_wp2_with (first | ((refine load_guard _ _ rfl ?_); refine wpList_load_mid_w (by rfl) 25 _ rfl w.heap.size 8 rfl _ _ HR.out Try.underlying25 rfl info25s ?_))
                        go_ret
                        exact ⟨by rw [HX.out]; rfl, HF.out⟩
                      · cases hs : shortB ns tube bn
                        · have HX : Hid (blankB ns tube bn = false) := Lib.hid (by simp only [blankB, zB, h0, h1, h2, h5, h6, h7, h8, h9, h10, h11, h12, hs, Bool.and_true, Bool.and_false])
                          go_enter Try.func36, Try.ntmps36
                          go_wp2_with (first | ((refine load_guard _ _ rfl ?_); refine wpList_load_mid_w (by rfl) 25 _ rfl w.heap.size 8 rfl _ _ HR.out Try.underlying25 rfl info25s ?_) | ((refine load_guard _ _ rfl ?_); refine wpList_load_row_w (by rfl) 27 _ rfl w.heap.size rfl 27 _ (0, 0) _ HG.out Try.underlying27 rfl hi27 ?_) | (go_at_call 39; refine (HSH.out _).mono ?_; rintro e w1 ⟨rfl, hf1⟩; rw [hs]; have HZ := Lib.hid (HF.out.trans hf1 (fun _ _ h => h)); clear hf1))
                          go_ret
                          exact ⟨by rw [HX.out]; rfl, HZ.out⟩
                        · have HX : Hid (blankB ns tube bn = true) := Lib.hid (by simp only [blankB, zB, h0, h1, h2, h5, h6, h7, h8, h9, h10, h11, h12, hs, Bool.and_true])
                          go_enter Try.func36, Try.ntmps36
                          go_wp2_with (first | ((refine load_guard _ _ rfl ?_); refine wpList_load_mid_w (by rfl) 25 _ rfl w.heap.size 8 rfl _ _ HR.out Try.underlying25 rfl info25s ?_) | ((refine load_guard _ _ rfl ?_); refine wpList_load_row_w (by rfl) 27 _ rfl w.heap.size rfl 27 _ (0, 0) _ HG.out Try.underlying27 rfl hi27 ?_) | (go_at_call 39; refine (HSH.out _).mono ?_; rintro e w1 ⟨rfl, hf1⟩; rw [hs]; have HZ := Lib.hid (HF.out.trans hf1 (fun _ _ h => h)); clear hf1))
                          go_ret
                          exact ⟨by rw [HX.out]; rfl, HZ.out⟩

theorem cnt_counts (ns : List Int) : countsB ns = cntB ns := by
  unfold countsB cntB
  simp [List.range_succ]

set_option maxRecDepth 100000 in
set_option maxHeartbeats 2000000 in
theorem changes_any (ns : List Int) (tube : ByteArray) (a : Option Addr) (bn c : Nat) (w : World) : Calls Try.prog 37 #[.agg (jobC ns tube (.slice a bn c))] w fun e w' => e = .returned (.bool (jobB ns)) ∧ Fr (fun _ => False) w w' := by
  have HG := Lib.hid (heap_alloc_eq w (.cells (jobC ns tube (.slice a bn c)) 27))
  have HF := Lib.hid ((Fr.refl (fun _ => False) w).alloc (.cells (jobC ns tube (.slice a bn c)) 27))
  have c0 : (w.alloc (.cells (jobC ns tube (.slice a bn c)) 27)).cell? ⟨w.heap.size, 0, none⟩ = some (.int .i64 (at0 ns 0)) := cell_is HG.out 0 rfl
  have c1 : (w.alloc (.cells (jobC ns tube (.slice a bn c)) 27)).cell? ⟨w.heap.size, 1, none⟩ = some (.int .i64 (at0 ns 1)) := cell_is HG.out 1 rfl
  have c2 : (w.alloc (.cells (jobC ns tube (.slice a bn c)) 27)).cell? ⟨w.heap.size, 2, none⟩ = some (.int .i64 (at0 ns 2)) := cell_is HG.out 2 rfl
  have c3 : (w.alloc (.cells (jobC ns tube (.slice a bn c)) 27)).cell? ⟨w.heap.size, 3, none⟩ = some (.int .i64 (at0 ns 3)) := cell_is HG.out 3 rfl
  have c4 : (w.alloc (.cells (jobC ns tube (.slice a bn c)) 27)).cell? ⟨w.heap.size, 4, none⟩ = some (.int .i64 (at0 ns 4)) := cell_is HG.out 4 rfl
  have c5 : (w.alloc (.cells (jobC ns tube (.slice a bn c)) 27)).cell? ⟨w.heap.size, 5, none⟩ = some (.int .i64 (at0 ns 5)) := cell_is HG.out 5 rfl
  have c6 : (w.alloc (.cells (jobC ns tube (.slice a bn c)) 27)).cell? ⟨w.heap.size, 6, none⟩ = some (.int .i64 (at0 ns 6)) := cell_is HG.out 6 rfl
  have c7 : (w.alloc (.cells (jobC ns tube (.slice a bn c)) 27)).cell? ⟨w.heap.size, 7, none⟩ = some (.int .i64 (at0 ns 7)) := cell_is HG.out 7 rfl
  have c13 : (w.alloc (.cells (jobC ns tube (.slice a bn c)) 27)).cell? ⟨w.heap.size, 13, none⟩ = some (.string tube) := cell_is HG.out 13 rfl
  have c14 : (w.alloc (.cells (jobC ns tube (.slice a bn c)) 27)).cell? ⟨w.heap.size, 14, none⟩ = some (.slice a bn c) := cell_is HG.out 14 rfl
  have HR := Lib.hid (cnt_range HG.out)
  have hcell : Hid (∀ w' : World, Fr (fun _ => False) (w.alloc (.cells (jobC ns tube (.slice a bn c)) 27)) w' → w'.cell? ⟨w.heap.size, 5, none⟩ = some (.int .i64 (at0 ns 5)) ∧ w'.cell? ⟨w.heap.size, 6, none⟩ = some (.int .i64 (at0 ns 6)) ∧ w'.cell? ⟨w.heap.size, 7, none⟩ = some (.int .i64 (at0 ns 7))) := Lib.hid (fun w' h => ⟨cell_is (h.get HG.out id) 5 rfl, cell_is (h.get HG.out id) 6 rfl, cell_is (h.get HG.out id) 7 rfl⟩)
  have hcc := cnt_counts ns
  generalize jobC ns tube (.slice a bn c) = jc at *
  cases h0 : inB3 (at0 ns 0) 1 1099511627776
  · have HX : Hid (jobB ns = false) := Lib.hid (by simp only [jobB, hcc, tailB, h0, Bool.false_and, Bool.and_false])
    go_enter Try.func37, Try.ntmps37
    go_wp2_with (first | (go_at_call 35; refine (within_anyR _ _ _ _).mono ?_; rintro e w1 ⟨rfl, rfl⟩; first | rw [h0]) | ((refine load_guard _ _ rfl ?_); refine wpList_load_mid_w (by rfl) 25 _ rfl w.heap.size 8 rfl _ _ HR.out Try.underlying25 rfl info25s ?_))
    go_ret
    exact ⟨by rw [HX.out]; rfl, HF.out⟩
  · cases h1 : inB3 (at0 ns 1) 0 4294967295
    · have HX : Hid (jobB ns = false) := Lib.hid (by simp only [jobB, hcc, tailB, h0, h1, Bool.false_and, Bool.and_false])
      go_enter Try.func37, Try.ntmps37
      go_wp2_with (first | (go_at_call 35; refine (within_anyR _ _ _ _).mono ?_; rintro e w1 ⟨rfl, rfl⟩; first | rw [h0] | rw [h1]) | ((refine load_guard _ _ rfl ?_); refine wpList_load_mid_w (by rfl) 25 _ rfl w.heap.size 8 rfl _ _ HR.out Try.underlying25 rfl info25s ?_))
      go_ret
      exact ⟨by rw [HX.out]; rfl, HF.out⟩
    · cases h2 : inB3 (at0 ns 2) 0 4294967295
      · have HX : Hid (jobB ns = false) := Lib.hid (by simp only [jobB, hcc, tailB, h0, h1, h2, Bool.and_false])
        go_enter Try.func37, Try.ntmps37
        go_wp2_with (first | (go_at_call 35; refine (within_anyR _ _ _ _).mono ?_; rintro e w1 ⟨rfl, rfl⟩; first | rw [h0] | rw [h1] | rw [h2]) | ((refine load_guard _ _ rfl ?_); refine wpList_load_mid_w (by rfl) 25 _ rfl w.heap.size 8 rfl _ _ HR.out Try.underlying25 rfl info25s ?_))
        go_ret
        exact ⟨by rw [HX.out]; rfl, HF.out⟩
      · cases hn : cntB ns
        · have HX : Hid (jobB ns = false) := Lib.hid (by simp only [jobB, hcc, tailB, h0, h1, h2, hn, Bool.and_true, Bool.false_and, Bool.and_false])
          go_enter Try.func37, Try.ntmps37
          go_wp2_with (first | (go_at_call 35; refine (within_anyR _ _ _ _).mono ?_; rintro e w1 ⟨rfl, rfl⟩; first | rw [h0] | rw [h1] | rw [h2]) | ((refine load_guard _ _ rfl ?_); refine wpList_load_mid_w (by rfl) 25 _ rfl w.heap.size 8 rfl _ _ HR.out Try.underlying25 rfl info25s ?_) | (go_at_call 47; refine (counts_any ns _).mono ?_; rintro e w1 ⟨rfl, hf1⟩; rw [hn]; obtain ⟨d5, d6, d7⟩ := hcell.out _ hf1; have HZ := Lib.hid (HF.out.trans hf1 (fun _ _ h => h)); clear hf1))
          go_ret
          exact ⟨by rw [HX.out]; rfl, HZ.out⟩
        · cases hk1 : (at0 ns 5 == 1)
          · cases hk2 : (at0 ns 5 == 2)
            · cases hk4 : (at0 ns 5 == 4)
              · have HX : Hid (jobB ns = false) := Lib.hid (by have hS : decide (StateOk (at0 ns 5)) = false := decide_eq_false (by unfold StateOk; simp at hk1 hk2 hk4; omega); simp only [jobB, hS, Bool.false_and])
                go_enter Try.func37, Try.ntmps37
                go_wp2_with (first | (go_at_call 35; refine (within_anyR _ _ _ _).mono ?_; rintro e w1 ⟨rfl, rfl⟩; first | rw [h0] | rw [h1] | rw [h2]) | ((refine load_guard _ _ rfl ?_); refine wpList_load_mid_w (by rfl) 25 _ rfl w.heap.size 8 rfl _ _ HR.out Try.underlying25 rfl info25s ?_) | (go_at_call 47; refine (counts_any ns _).mono ?_; rintro e w1 ⟨rfl, hf1⟩; rw [hn]; obtain ⟨d5, d6, d7⟩ := hcell.out _ hf1; have HZ := Lib.hid (HF.out.trans hf1 (fun _ _ h => h)); clear hf1))
                go_ret
                exact ⟨by rw [HX.out]; rfl, HZ.out⟩
              · have e5 : at0 ns 5 = 4 := by simpa using hk4
                have hS : decide (StateOk (at0 ns 5)) = true := decide_eq_true (by unfold StateOk; omega)
                have hD : dueB ns = (at0 ns 6 == 0) := by unfold dueB; rw [if_neg (by omega), in00]
                have hO : orderB ns = inB3 (at0 ns 7) 1 4611686018427387903 := by unfold orderB; rw [if_pos e5]
                cases z6 : (at0 ns 6 == 0)
                · have HX : Hid (jobB ns = false) := Lib.hid (by simp only [jobB, hS, hcc, hn, hD, hO, tailB, h0, h1, h2, z6, Bool.and_true, Bool.false_and, Bool.and_false])
                  clear hD hO hS
                  go_enter Try.func37, Try.ntmps37
                  go_wp2_with (first | (go_at_call 35; refine (within_anyR _ _ _ _).mono ?_; rintro e w1 ⟨rfl, rfl⟩; first | rw [h0] | rw [h1] | rw [h2]) | ((refine load_guard _ _ rfl ?_); refine wpList_load_mid_w (by rfl) 25 _ rfl w.heap.size 8 rfl _ _ HR.out Try.underlying25 rfl info25s ?_) | (go_at_call 47; refine (counts_any ns _).mono ?_; rintro e w1 ⟨rfl, hf1⟩; rw [hn]; obtain ⟨d5, d6, d7⟩ := hcell.out _ hf1; have HZ := Lib.hid (HF.out.trans hf1 (fun _ _ h => h)); clear hf1))
                  go_ret
                  exact ⟨by rw [HX.out]; rfl, HZ.out⟩
                · cases g7 : inB3 (at0 ns 7) 1 4611686018427387903
                  · have HX : Hid (jobB ns = false) := Lib.hid (by simp only [jobB, hS, hcc, hn, hD, hO, tailB, h0, h1, h2, z6, g7, Bool.and_true, Bool.and_false])
                    clear hD hO hS
                    go_enter Try.func37, Try.ntmps37
                    go_wp2_with (first | (go_at_call 35; refine (within_anyR _ _ _ _).mono ?_; rintro e w1 ⟨rfl, rfl⟩; first | rw [h0] | rw [h1] | rw [h2] | rw [g7]) | ((refine load_guard _ _ rfl ?_); refine wpList_load_mid_w (by rfl) 25 _ rfl w.heap.size 8 rfl _ _ HR.out Try.underlying25 rfl info25s ?_) | (go_at_call 47; refine (counts_any ns _).mono ?_; rintro e w1 ⟨rfl, hf1⟩; rw [hn]; obtain ⟨d5, d6, d7⟩ := hcell.out _ hf1; have HZ := Lib.hid (HF.out.trans hf1 (fun _ _ h => h)); clear hf1))
                    go_ret
                    exact ⟨by rw [HX.out]; rfl, HZ.out⟩
                  · have HX : Hid (jobB ns = true) := Lib.hid (by simp only [jobB, hS, hcc, hn, hD, hO, tailB, h0, h1, h2, z6, g7, Bool.and_true])
                    clear hD hO hS
                    go_enter Try.func37, Try.ntmps37
                    go_wp2_with (first | (go_at_call 35; refine (within_anyR _ _ _ _).mono ?_; rintro e w1 ⟨rfl, rfl⟩; first | rw [h0] | rw [h1] | rw [h2] | rw [g7]) | ((refine load_guard _ _ rfl ?_); refine wpList_load_mid_w (by rfl) 25 _ rfl w.heap.size 8 rfl _ _ HR.out Try.underlying25 rfl info25s ?_) | (go_at_call 47; refine (counts_any ns _).mono ?_; rintro e w1 ⟨rfl, hf1⟩; rw [hn]; obtain ⟨d5, d6, d7⟩ := hcell.out _ hf1; have HZ := Lib.hid (HF.out.trans hf1 (fun _ _ h => h)); clear hf1))
                    go_ret
                    exact ⟨by rw [HX.out]; rfl, HZ.out⟩
            · have e5 : at0 ns 5 = 2 := by simpa using hk2
              have hS : decide (StateOk (at0 ns 5)) = true := decide_eq_true (by unfold StateOk; omega)
              have hD : dueB ns = inB3 (at0 ns 6) 1 1103806595071 := by unfold dueB; rw [if_pos e5]
              have hO : orderB ns = (at0 ns 7 == 0) := by unfold orderB; rw [if_neg (by omega), in00]
              cases g6 : inB3 (at0 ns 6) 1 1103806595071
              · have HX : Hid (jobB ns = false) := Lib.hid (by simp only [jobB, hS, hcc, hn, hD, hO, tailB, h0, h1, h2, g6, Bool.and_true, Bool.false_and, Bool.and_false])
                clear hD hO hS
                go_enter Try.func37, Try.ntmps37
                go_wp2_with (first | (go_at_call 35; refine (within_anyR _ _ _ _).mono ?_; rintro e w1 ⟨rfl, rfl⟩; first | rw [h0] | rw [h1] | rw [h2] | rw [g6]) | ((refine load_guard _ _ rfl ?_); refine wpList_load_mid_w (by rfl) 25 _ rfl w.heap.size 8 rfl _ _ HR.out Try.underlying25 rfl info25s ?_) | (go_at_call 47; refine (counts_any ns _).mono ?_; rintro e w1 ⟨rfl, hf1⟩; rw [hn]; obtain ⟨d5, d6, d7⟩ := hcell.out _ hf1; have HZ := Lib.hid (HF.out.trans hf1 (fun _ _ h => h)); clear hf1))
                go_ret
                exact ⟨by rw [HX.out]; rfl, HZ.out⟩
              · cases z7 : (at0 ns 7 == 0)
                · have HX : Hid (jobB ns = false) := Lib.hid (by simp only [jobB, hS, hcc, hn, hD, hO, tailB, h0, h1, h2, g6, z7, Bool.and_true, Bool.and_false])
                  clear hD hO hS
                  go_enter Try.func37, Try.ntmps37
                  go_wp2_with (first | (go_at_call 35; refine (within_anyR _ _ _ _).mono ?_; rintro e w1 ⟨rfl, rfl⟩; first | rw [h0] | rw [h1] | rw [h2] | rw [g6]) | ((refine load_guard _ _ rfl ?_); refine wpList_load_mid_w (by rfl) 25 _ rfl w.heap.size 8 rfl _ _ HR.out Try.underlying25 rfl info25s ?_) | (go_at_call 47; refine (counts_any ns _).mono ?_; rintro e w1 ⟨rfl, hf1⟩; rw [hn]; obtain ⟨d5, d6, d7⟩ := hcell.out _ hf1; have HZ := Lib.hid (HF.out.trans hf1 (fun _ _ h => h)); clear hf1))
                  go_ret
                  exact ⟨by rw [HX.out]; rfl, HZ.out⟩
                · have HX : Hid (jobB ns = true) := Lib.hid (by simp only [jobB, hS, hcc, hn, hD, hO, tailB, h0, h1, h2, g6, z7, Bool.and_true])
                  clear hD hO hS
                  go_enter Try.func37, Try.ntmps37
                  go_wp2_with (first | (go_at_call 35; refine (within_anyR _ _ _ _).mono ?_; rintro e w1 ⟨rfl, rfl⟩; first | rw [h0] | rw [h1] | rw [h2] | rw [g6]) | ((refine load_guard _ _ rfl ?_); refine wpList_load_mid_w (by rfl) 25 _ rfl w.heap.size 8 rfl _ _ HR.out Try.underlying25 rfl info25s ?_) | (go_at_call 47; refine (counts_any ns _).mono ?_; rintro e w1 ⟨rfl, hf1⟩; rw [hn]; obtain ⟨d5, d6, d7⟩ := hcell.out _ hf1; have HZ := Lib.hid (HF.out.trans hf1 (fun _ _ h => h)); clear hf1))
                  go_ret
                  exact ⟨by rw [HX.out]; rfl, HZ.out⟩
          · have e5 : at0 ns 5 = 1 := by simpa using hk1
            have hS : decide (StateOk (at0 ns 5)) = true := decide_eq_true (by unfold StateOk; omega)
            have hD : dueB ns = (at0 ns 6 == 0) := by unfold dueB; rw [if_neg (by omega), in00]
            have hO : orderB ns = (at0 ns 7 == 0) := by unfold orderB; rw [if_neg (by omega), in00]
            cases z6 : (at0 ns 6 == 0)
            · have HX : Hid (jobB ns = false) := Lib.hid (by simp only [jobB, hS, hcc, hn, hD, hO, tailB, h0, h1, h2, z6, Bool.and_true, Bool.false_and, Bool.and_false])
              clear hD hO hS
              go_enter Try.func37, Try.ntmps37
              go_wp2_with (first | (go_at_call 35; refine (within_anyR _ _ _ _).mono ?_; rintro e w1 ⟨rfl, rfl⟩; first | rw [h0] | rw [h1] | rw [h2]) | ((refine load_guard _ _ rfl ?_); refine wpList_load_mid_w (by rfl) 25 _ rfl w.heap.size 8 rfl _ _ HR.out Try.underlying25 rfl info25s ?_) | (go_at_call 47; refine (counts_any ns _).mono ?_; rintro e w1 ⟨rfl, hf1⟩; rw [hn]; obtain ⟨d5, d6, d7⟩ := hcell.out _ hf1; have HZ := Lib.hid (HF.out.trans hf1 (fun _ _ h => h)); clear hf1))
              go_ret
              exact ⟨by rw [HX.out]; rfl, HZ.out⟩
            · cases z7 : (at0 ns 7 == 0)
              · have HX : Hid (jobB ns = false) := Lib.hid (by simp only [jobB, hS, hcc, hn, hD, hO, tailB, h0, h1, h2, z6, z7, Bool.and_true, Bool.and_false])
                clear hD hO hS
                go_enter Try.func37, Try.ntmps37
                go_wp2_with (first | (go_at_call 35; refine (within_anyR _ _ _ _).mono ?_; rintro e w1 ⟨rfl, rfl⟩; first | rw [h0] | rw [h1] | rw [h2]) | ((refine load_guard _ _ rfl ?_); refine wpList_load_mid_w (by rfl) 25 _ rfl w.heap.size 8 rfl _ _ HR.out Try.underlying25 rfl info25s ?_) | (go_at_call 47; refine (counts_any ns _).mono ?_; rintro e w1 ⟨rfl, hf1⟩; rw [hn]; obtain ⟨d5, d6, d7⟩ := hcell.out _ hf1; have HZ := Lib.hid (HF.out.trans hf1 (fun _ _ h => h)); clear hf1))
                go_ret
                exact ⟨by rw [HX.out]; rfl, HZ.out⟩
              · have HX : Hid (jobB ns = true) := Lib.hid (by simp only [jobB, hS, hcc, hn, hD, hO, tailB, h0, h1, h2, z6, z7, Bool.and_true])
                clear hD hO hS
                go_enter Try.func37, Try.ntmps37
                go_wp2_with (first | (go_at_call 35; refine (within_anyR _ _ _ _).mono ?_; rintro e w1 ⟨rfl, rfl⟩; first | rw [h0] | rw [h1] | rw [h2]) | ((refine load_guard _ _ rfl ?_); refine wpList_load_mid_w (by rfl) 25 _ rfl w.heap.size 8 rfl _ _ HR.out Try.underlying25 rfl info25s ?_) | (go_at_call 47; refine (counts_any ns _).mono ?_; rintro e w1 ⟨rfl, hf1⟩; rw [hn]; obtain ⟨d5, d6, d7⟩ := hcell.out _ hf1; have HZ := Lib.hid (HF.out.trans hf1 (fun _ _ h => h)); clear hf1))
                go_ret
                exact ⟨by rw [HX.out]; rfl, HZ.out⟩

end Go.Proofs.Ytpecbhimnpjkdaa
