/- 'cut', 'Take' of the frame and of the reference. -/
import Derived.Test.YtgobbgklmjnnlaaFrMakeR
namespace Go.Proofs.Ytgobbgklmjnnlaa
open Go.RowKit Go.Sb

theorem four {bs : List UInt8} (h : 4 ≤ bs.length) : ∃ c0 c1 c2 c3 r, bs = c0 :: c1 :: c2 :: c3 :: r := by
  match bs, h with
  | c0 :: c1 :: c2 :: c3 :: r, _ => exact ⟨c0, c1, c2, c3, r, rfl⟩

/-- the length that stands at the head -/
def lenOf (bs : List UInt8) : Nat := unle (bs.take 4)
def payOf (bs : List UInt8) : List UInt8 := (bs.drop 8).take (lenOf bs)
def markOf (bs : List UInt8) : Nat := unle ((bs.drop 4).take 4)

theorem number_of (b o c m : Nat) (bs : List UInt8) (w : World) (hm : 4 ≤ m) (h4 : 4 ≤ bs.length) (hc : ∀ i (h : i < bs.length), w.cell? ⟨b, o + i, none⟩ = some (byte bs[i])) :
    Calls Try.prog 47 #[.slice (some ⟨b, o, none⟩) m c] w (Quiet (.int .i64 ((lenOf bs : Nat) : Int)) w) := by
  obtain ⟨c0, c1, c2, c3, r, rfl⟩ := four h4
  exact number_any b o m c c0 c1 c2 c3 w hm (fun i hi => by
    have := hc i (by simp at hi ⊢; omega)
    rw [this]
    match i, hi with
    | 0, _ => rfl
    | 1, _ => rfl
    | 2, _ => rfl
    | 3, _ => rfl)

/-- what is cut off: an error, or the payload, a piece of what was handed in -/
def CutPost (w : World) (err : Int) (xs : List UInt8) (e : Ending) (w' : World) : Prop :=
  ∃ v, e = .returned (.tuple #[v, .int .i64 err]) ∧ RB w' v xs ∧ Fr (fun _ => False) w w'

set_option maxRecDepth 100000 in
set_option maxHeartbeats 1000000 in
theorem cut_arg (file place : Int) (v : Value) (w : World) (h : ¬ (Placed file ∧ Placed place)) :
    Calls Try.prog 41 #[.int .i64 file, .int .i64 place, v] w (CutPost w 24 []) := by
  by_cases hf : Placed file
  · have hp : ¬ Placed place := fun hp => h ⟨hf, hp⟩
    have HF := Lib.hid (placed_yes file w hf)
    have HP := Lib.hid (placed_no place w hp)
    clear h hf hp
    go_enter Try.func41, Try.ntmps41
    go_wp2_with (fail)
    refine HF.out.mono ?_
    rintro e w1 ⟨rfl, rfl⟩
    go_wp2_with (fail)
    refine HP.out.mono ?_
    rintro e w1 ⟨rfl, rfl⟩
    go_wp2_with (fail)
    go_ret2
    exact ⟨_, rfl, RB.nil _, Fr.refl _ _⟩
  · have HF := Lib.hid (placed_no file w hf)
    clear h hf
    go_enter Try.func41, Try.ntmps41
    go_wp2_with (fail)
    refine HF.out.mono ?_
    rintro e w1 ⟨rfl, rfl⟩
    go_wp2_with (fail)
    go_ret2
    exact ⟨_, rfl, RB.nil _, Fr.refl _ _⟩

set_option maxRecDepth 100000 in
set_option maxHeartbeats 1000000 in
theorem cut_short (file place : Int) (a : Option Addr) (n c : Nat) (w : World) (hf : Placed file) (hp : Placed place) (hl : n < 4) :
    Calls Try.prog 41 #[.int .i64 file, .int .i64 place, .slice a n c] w (CutPost w (if n = 0 then 20 else 21) []) := by
  have HF := Lib.hid (placed_yes file w hf)
  have HP := Lib.hid (placed_yes place w hp)
  clear hf hp
  by_cases h0 : n = 0
  · subst h0
    go_enter Try.func41, Try.ntmps41
    go_wp2_with (fail)
    refine HF.out.mono ?_
    rintro e w1 ⟨rfl, rfl⟩
    go_wp2_with (fail)
    refine HP.out.mono ?_
    rintro e w1 ⟨rfl, rfl⟩
    go_wp2_with (fail)
    go_ret2
    exact ⟨_, rfl, RB.nil _, Fr.refl _ _⟩
  · have hz : ((n : Int) == 0) = false := by simp only [beq_eq_false_iff_ne, ne_eq]; omega
    rw [if_neg h0]
    go_enter Try.func41, Try.ntmps41
    go_wp2_with (fail)
    refine HF.out.mono ?_
    rintro e w1 ⟨rfl, rfl⟩
    go_wp2_with (fail)
    refine HP.out.mono ?_
    rintro e w1 ⟨rfl, rfl⟩
    go_wp2_with (fail)
    go_ret2
    exact ⟨_, rfl, RB.nil _, Fr.refl _ _⟩

set_option maxRecDepth 100000 in
set_option maxHeartbeats 1000000 in
theorem cut_long (file place : Int) (b o c : Nat) (bs : List UInt8) (w : World) (hf : Placed file) (hp : Placed place) (h4 : 4 ≤ bs.length) (hlm : bs.length ≤ 9223372036854775807)
    (hc : ∀ i (h : i < bs.length), w.cell? ⟨b, o + i, none⟩ = some (byte bs[i])) (hl : lenOf bs = 0 ∨ 66000 < lenOf bs) :
    Calls Try.prog 41 #[.int .i64 file, .int .i64 place, .slice (some ⟨b, o, none⟩) bs.length c] w (CutPost w 22 []) := by
  have HF := Lib.hid (placed_yes file w hf)
  have HP := Lib.hid (placed_yes place w hp)
  have HN := Lib.hid (number_of b o c bs.length bs w h4 h4 hc)
  have hz : ((bs.length : Int) == 0) = false := by simp only [beq_eq_false_iff_ne, ne_eq]; omega
  have hz2 : decide ((bs.length : Int) < 4) = false := by simp; omega
  clear hf hp hc
  generalize lenOf bs = k at *
  rcases hl with rfl | hl
  all_goals
    go_enter Try.func41, Try.ntmps41
    go_wp2_with (fail)
    refine HF.out.mono ?_
    rintro e w1 ⟨rfl, rfl⟩
    go_wp2_with (fail)
    refine HP.out.mono ?_
    rintro e w1 ⟨rfl, rfl⟩
    go_wp2_with (fail)
    refine HN.out.mono ?_
    rintro e w1 ⟨rfl, m, rfl⟩
    (try (have hk0 : ((k : Int) == 0) = false := by simp only [beq_eq_false_iff_ne, ne_eq]; omega))
    go_wp2_with (fail)
    go_ret2
    exact ⟨_, rfl, RB.nil _, (Fr.refl _ _).drewN _⟩

set_option maxRecDepth 100000 in
set_option maxHeartbeats 1000000 in
theorem cut_torn (file place : Int) (b o c : Nat) (bs : List UInt8) (w : World) (hf : Placed file) (hp : Placed place) (h4 : 4 ≤ bs.length) (hlm : bs.length ≤ 9223372036854775807)
    (hc : ∀ i (h : i < bs.length), w.cell? ⟨b, o + i, none⟩ = some (byte bs[i])) (hl : 0 < lenOf bs ∧ lenOf bs ≤ 66000) (ht : bs.length < 8 + lenOf bs) :
    Calls Try.prog 41 #[.int .i64 file, .int .i64 place, .slice (some ⟨b, o, none⟩) bs.length c] w (CutPost w 21 []) := by
  have HF := Lib.hid (placed_yes file w hf)
  have HP := Lib.hid (placed_yes place w hp)
  have HN := Lib.hid (number_of b o c bs.length bs w h4 h4 hc)
  have hz : ((bs.length : Int) == 0) = false := by simp only [beq_eq_false_iff_ne, ne_eq]; omega
  have hz2 : decide ((bs.length : Int) < 4) = false := by simp; omega
  clear hf hp hc
  obtain ⟨hl1, hl2⟩ := hl
  generalize lenOf bs = k at *
  have hk0 : ((k : Int) == 0) = false := by simp only [beq_eq_false_iff_ne, ne_eq]; omega
  go_enter Try.func41, Try.ntmps41
  go_wp2_with (fail)
  refine HF.out.mono ?_
  rintro e w1 ⟨rfl, rfl⟩
  go_wp2_with (fail)
  refine HP.out.mono ?_
  rintro e w1 ⟨rfl, rfl⟩
  go_wp2_with (fail)
  refine HN.out.mono ?_
  rintro e w1 ⟨rfl, m, rfl⟩
  go_wp2_with (fail)
  go_ret2
  exact ⟨_, rfl, RB.nil _, (Fr.refl _ _).drewN _⟩

theorem RB.sub {w : World} {b o m n c : Nat} {xs : List UInt8} (hn : m + n ≤ xs.length) (hc : n ≤ c) (hm : c ≤ maxLen) (h : ∀ i (h : i < xs.length), w.cell? ⟨b, o + i, none⟩ = some (byte xs[i])) :
    RB w (.slice (some ⟨b, o + m, none⟩) n c) ((xs.drop m).take n) := by
  have hl : ((xs.drop m).take n).length = n := by simp; omega
  refine ⟨some ⟨b, o + m, none⟩, c, by rw [hl], by omega, hm, .inr ⟨b, o + m, none, rfl, fun _ => rfl, fun i hi => ?_⟩⟩
  rw [List.getElem_take, List.getElem_drop, Nat.add_assoc]
  exact h (m + i) (by omega)

theorem payOf_length {bs : List UInt8} (h : 8 + lenOf bs ≤ bs.length) : (payOf bs).length = lenOf bs := by
  unfold payOf
  simp
  omega

/-- whether the sum that stands there is the one that is reckoned -/
def SumOk (file place : Nat) (bs : List UInt8) : Prop := markOf bs = (sumOf file place (payOf bs)).toNat

set_option maxRecDepth 100000 in
set_option maxHeartbeats 1000000 in
theorem cut_ok (file place : Nat) (b o c : Nat) (bs : List UInt8) (w : World) (hf : file ≤ 4611686018427387903) (hp : place ≤ 4611686018427387903) (hlm : bs.length ≤ c) (hcm : c ≤ maxLen)
    (hc : ∀ i (h : i < bs.length), w.cell? ⟨b, o + i, none⟩ = some (byte bs[i])) (hl : 0 < lenOf bs ∧ lenOf bs ≤ 66000) (ht : 8 + lenOf bs ≤ bs.length) (hok : SumOk file place bs) :
    Calls Try.prog 41 #[.int .i64 (file : Int), .int .i64 (place : Int), .slice (some ⟨b, o, none⟩) bs.length c] w (CutPost w 0 (payOf bs)) := by
  have HF := Lib.hid (placed_yes file w ⟨by omega, by omega⟩)
  have HP := Lib.hid (placed_yes place w ⟨by omega, by omega⟩)
  have HN := Lib.hid (number_of b o c bs.length bs w (by omega) (by omega) hc)
  have HM := Lib.hid (fun m => number_of b (o + 4) 4 4 (bs.drop 4) (w.drewN m) (by decide) (by simp; omega) (fun i hi => by
    rw [List.getElem_drop, Nat.add_assoc]
    exact hc (4 + i) (by simp at hi; omega)))
  have HS := Lib.hid (RB.sub (m := 8) (n := lenOf bs) (c := lenOf bs) (by omega) (Nat.le_refl _) (by omega) hc)
  have hz : ((bs.length : Int) == 0) = false := by simp only [beq_eq_false_iff_ne, ne_eq]; omega
  have hz2 : decide ((bs.length : Int) < 4) = false := by simp; omega
  have HPY : Hid (payOf bs = (bs.drop 8).take (lenOf bs)) := rfl
  have hok2 :  (lenOf (bs.drop 4) = (sumOf file place ((bs.drop 8).take (lenOf bs))).toNat) := hok
  have HOK := Lib.hid hok2
  unfold maxLen at hcm
  clear hc hok hok2
  obtain ⟨hl1, hl2⟩ := hl
  generalize lenOf bs = k at *
  have hk0 : ((k : Int) == 0) = false := by simp only [beq_eq_false_iff_ne, ne_eq]; omega
  go_enter Try.func41, Try.ntmps41
  go_wp2_with (fail)
  refine HF.out.mono ?_
  rintro e w1 ⟨rfl, rfl⟩
  go_wp2_with (fail)
  refine HP.out.mono ?_
  rintro e w1 ⟨rfl, rfl⟩
  go_wp2_with (fail)
  refine HN.out.mono ?_
  rintro e w1 ⟨rfl, m, rfl⟩
  go_wp2_with (fail)
  refine (HM.out m).mono ?_
  rintro e w1 ⟨rfl, m2, rfl⟩
  go_wp2_with (fail)
  try simp only [Nat.add_sub_cancel_left]
  refine (fsum_any file place _ _ _ (HS.out.drewN (m + m2)) hf hp).mono ?_
  rintro e w3 ⟨rfl, hf3⟩
  have HF3 := Lib.hid (none_fr ((Fr.refl (fun _ => False) w).drewN (m + m2)) hf3)
  obtain ⟨s, hs⟩ : ∃ s, (sumOf file place ((bs.drop 8).take k)).toNat = s := ⟨_, rfl⟩
  obtain ⟨q, hq⟩ : ∃ q, lenOf (bs.drop 4) = q := ⟨_, rfl⟩
  have hqs := HOK.out
  rw [hs, hq] at hqs
  rw [hs, hq]
  clear hs hq hf3
  subst hqs
  go_wp2_with (fail)
  go_ret2
  refine ⟨_, rfl, ?_, HF3.out⟩
  rw [HPY.out]
  first | exact HS.out.fr HF3.out | (simp only [Nat.add_sub_cancel_left]; exact HS.out.fr HF3.out) | (show RB w3 (.slice (some ⟨b, o + 8, none⟩) (8 + k - 8) (8 + k - 8)) _; rw [Nat.add_sub_cancel_left]; exact HS.out.fr HF3.out)

set_option maxRecDepth 100000 in
set_option maxHeartbeats 1000000 in
theorem cut_bad (file place : Nat) (b o c : Nat) (bs : List UInt8) (w : World) (hf : file ≤ 4611686018427387903) (hp : place ≤ 4611686018427387903) (hlm : bs.length ≤ c) (hcm : c ≤ maxLen)
    (hc : ∀ i (h : i < bs.length), w.cell? ⟨b, o + i, none⟩ = some (byte bs[i])) (hl : 0 < lenOf bs ∧ lenOf bs ≤ 66000) (ht : 8 + lenOf bs ≤ bs.length) (hok : ¬ SumOk file place bs) :
    Calls Try.prog 41 #[.int .i64 (file : Int), .int .i64 (place : Int), .slice (some ⟨b, o, none⟩) bs.length c] w (CutPost w 23 []) := by
  have HF := Lib.hid (placed_yes file w ⟨by omega, by omega⟩)
  have HP := Lib.hid (placed_yes place w ⟨by omega, by omega⟩)
  have HN := Lib.hid (number_of b o c bs.length bs w (by omega) (by omega) hc)
  have HM := Lib.hid (fun m => number_of b (o + 4) 4 4 (bs.drop 4) (w.drewN m) (by decide) (by simp; omega) (fun i hi => by
    rw [List.getElem_drop, Nat.add_assoc]
    exact hc (4 + i) (by simp at hi; omega)))
  have HS := Lib.hid (RB.sub (m := 8) (n := lenOf bs) (c := lenOf bs) (by omega) (Nat.le_refl _) (by omega) hc)
  have hz : ((bs.length : Int) == 0) = false := by simp only [beq_eq_false_iff_ne, ne_eq]; omega
  have hz2 : decide ((bs.length : Int) < 4) = false := by simp; omega
  have HPY : Hid (payOf bs = (bs.drop 8).take (lenOf bs)) := rfl
  have hok2 : ¬ (lenOf (bs.drop 4) = (sumOf file place ((bs.drop 8).take (lenOf bs))).toNat) := hok
  have HOK := Lib.hid hok2
  unfold maxLen at hcm
  clear hc hok hok2
  obtain ⟨hl1, hl2⟩ := hl
  generalize lenOf bs = k at *
  have hk0 : ((k : Int) == 0) = false := by simp only [beq_eq_false_iff_ne, ne_eq]; omega
  go_enter Try.func41, Try.ntmps41
  go_wp2_with (fail)
  refine HF.out.mono ?_
  rintro e w1 ⟨rfl, rfl⟩
  go_wp2_with (fail)
  refine HP.out.mono ?_
  rintro e w1 ⟨rfl, rfl⟩
  go_wp2_with (fail)
  refine HN.out.mono ?_
  rintro e w1 ⟨rfl, m, rfl⟩
  go_wp2_with (fail)
  refine (HM.out m).mono ?_
  rintro e w1 ⟨rfl, m2, rfl⟩
  go_wp2_with (fail)
  try simp only [Nat.add_sub_cancel_left]
  refine (fsum_any file place _ _ _ (HS.out.drewN (m + m2)) hf hp).mono ?_
  rintro e w3 ⟨rfl, hf3⟩
  have HF3 := Lib.hid (none_fr ((Fr.refl (fun _ => False) w).drewN (m + m2)) hf3)
  obtain ⟨s, hs⟩ : ∃ s, (sumOf file place ((bs.drop 8).take k)).toNat = s := ⟨_, rfl⟩
  obtain ⟨q, hq⟩ : ∃ q, lenOf (bs.drop 4) = q := ⟨_, rfl⟩
  have hqs := HOK.out
  rw [hs, hq] at hqs
  rw [hs, hq]
  clear hs hq hf3
  have hne : ((q : Int) != (s : Int)) = true := by rw [bne_iff_ne]; omega
  go_wp2_with (fail)
  go_ret2
  exact ⟨_, rfl, RB.nil _, HF3.out⟩

end Go.Proofs.Ytgobbgklmjnnlaa
