/- 'Take' of the reference. -/
import Derived.Test.YtgobbgklmjnnlaaFrTake2
namespace Go.Proofs.Ytgobbgklmjnnlaa
open Go.RowKit Go.Sb

set_option maxRecDepth 100000 in
set_option maxHeartbeats 1000000 in
theorem taker_arg (file place : Int) (v : Value) (w : World) (h : ¬ (Placed file ∧ Placed place)) :
    Calls Try.prog 25 #[.int .i64 file, .int .i64 place, v] w (TakePost w 24 0 []) := by
  by_cases hf : Placed file
  · have hp : ¬ Placed place := fun hp => h ⟨hf, hp⟩
    have HF := Lib.hid (placed_yesR file w hf)
    have HP := Lib.hid (placed_noR place w hp)
    clear h hf hp
    go_enter Try.func25, Try.ntmps25
    go_wp2_with (fail)
    refine HF.out.mono ?_
    rintro e w1 ⟨rfl, rfl⟩
    go_wp2_with (fail)
    refine HP.out.mono ?_
    rintro e w1 ⟨rfl, rfl⟩
    go_wp2_with (fail)
    go_ret3
    exact ⟨_, rfl, OB.nil _ _, Fr.refl _ _⟩
  · have HF := Lib.hid (placed_noR file w hf)
    clear h hf
    go_enter Try.func25, Try.ntmps25
    go_wp2_with (fail)
    refine HF.out.mono ?_
    rintro e w1 ⟨rfl, rfl⟩
    go_wp2_with (fail)
    go_ret3
    exact ⟨_, rfl, OB.nil _ _, Fr.refl _ _⟩

set_option maxRecDepth 100000 in
set_option maxHeartbeats 1000000 in
theorem taker_short (file place : Int) (a : Option Addr) (n c : Nat) (w : World) (hf : Placed file) (hp : Placed place) (hl : n < 4) :
    Calls Try.prog 25 #[.int .i64 file, .int .i64 place, .slice a n c] w (TakePost w (if n = 0 then 20 else 21) 0 []) := by
  have HF := Lib.hid (placed_yesR file w hf)
  have HP := Lib.hid (placed_yesR place w hp)
  clear hf hp
  by_cases h0 : n = 0
  · subst h0
    go_enter Try.func25, Try.ntmps25
    go_wp2_with (fail)
    refine HF.out.mono ?_
    rintro e w1 ⟨rfl, rfl⟩
    go_wp2_with (fail)
    refine HP.out.mono ?_
    rintro e w1 ⟨rfl, rfl⟩
    go_wp2_with (fail)
    go_ret3
    exact ⟨_, rfl, OB.nil _ _, Fr.refl _ _⟩
  · have hz : ((n : Int) == 0) = false := by simp only [beq_eq_false_iff_ne, ne_eq]; omega
    rw [if_neg h0]
    go_enter Try.func25, Try.ntmps25
    go_wp2_with (fail)
    refine HF.out.mono ?_
    rintro e w1 ⟨rfl, rfl⟩
    go_wp2_with (fail)
    refine HP.out.mono ?_
    rintro e w1 ⟨rfl, rfl⟩
    go_wp2_with (fail)
    go_ret3
    exact ⟨_, rfl, OB.nil _ _, Fr.refl _ _⟩

theorem refnumber_of (b o c : Nat) (bs : List UInt8) (w : World) (h4 : 4 ≤ bs.length) (hc1 : bs.length ≤ c) (hc2 : c ≤ maxLen) (hc : ∀ i (h : i < bs.length), w.cell? ⟨b, o + i, none⟩ = some (byte bs[i])) :
    Calls Try.prog 43 #[.slice (some ⟨b, o, none⟩) 4 c] w fun e w' => e = .returned (.int .i64 ((lenOf bs : Nat) : Int)) ∧ w = w' := by
  have hl : (bs.take 4).length = 4 := by simp; omega
  exact refnumber_any _ (bs.take 4) w (RB.cut (n := 4) h4 hc1 hc2 hc) (by omega) (by omega)

set_option maxRecDepth 100000 in
set_option maxHeartbeats 1000000 in
theorem taker_long (file place : Int) (b o c : Nat) (bs : List UInt8) (w : World) (hf : Placed file) (hp : Placed place) (h4 : 4 ≤ bs.length) (hc1 : bs.length ≤ c) (hc2 : c ≤ maxLen)
    (hc : ∀ i (h : i < bs.length), w.cell? ⟨b, o + i, none⟩ = some (byte bs[i])) (hl : lenOf bs = 0 ∨ 66000 < lenOf bs) :
    Calls Try.prog 25 #[.int .i64 file, .int .i64 place, .slice (some ⟨b, o, none⟩) bs.length c] w (TakePost w 22 0 []) := by
  have HF := Lib.hid (placed_yesR file w hf)
  have HP := Lib.hid (placed_yesR place w hp)
  have HN := Lib.hid (refnumber_of b o c bs w h4 hc1 hc2 hc)
  have hz : ((bs.length : Int) == 0) = false := by simp only [beq_eq_false_iff_ne, ne_eq]; omega
  unfold maxLen at hc2
  clear hf hp hc
  generalize lenOf bs = k at *
  rcases hl with rfl | hl
  all_goals
    go_enter Try.func25, Try.ntmps25
    go_wp2_with (fail)
    refine HF.out.mono ?_
    rintro e w1 ⟨rfl, rfl⟩
    go_wp2_with (fail)
    refine HP.out.mono ?_
    rintro e w1 ⟨rfl, rfl⟩
    go_wp2_with (fail)
    refine HN.out.mono ?_
    rintro e w1 ⟨rfl, rfl⟩
    (try (have hk0 : ((k : Int) == 0) = false := by simp only [beq_eq_false_iff_ne, ne_eq]; omega))
    go_wp2_with (fail)
    go_ret3
    exact ⟨_, rfl, OB.nil _ _, Fr.refl _ _⟩

set_option maxRecDepth 100000 in
set_option maxHeartbeats 1000000 in
theorem taker_torn (file place : Int) (b o c : Nat) (bs : List UInt8) (w : World) (hf : Placed file) (hp : Placed place) (h4 : 4 ≤ bs.length) (hc1 : bs.length ≤ c) (hc2 : c ≤ maxLen)
    (hc : ∀ i (h : i < bs.length), w.cell? ⟨b, o + i, none⟩ = some (byte bs[i])) (hl : 0 < lenOf bs ∧ lenOf bs ≤ 66000) (ht : bs.length < 8 + lenOf bs) :
    Calls Try.prog 25 #[.int .i64 file, .int .i64 place, .slice (some ⟨b, o, none⟩) bs.length c] w (TakePost w 21 0 []) := by
  have HF := Lib.hid (placed_yesR file w hf)
  have HP := Lib.hid (placed_yesR place w hp)
  have HN := Lib.hid (refnumber_of b o c bs w h4 hc1 hc2 hc)
  have hz : ((bs.length : Int) == 0) = false := by simp only [beq_eq_false_iff_ne, ne_eq]; omega
  unfold maxLen at hc2
  clear hf hp hc
  obtain ⟨hl1, hl2⟩ := hl
  generalize lenOf bs = k at *
  have hk0 : ((k : Int) == 0) = false := by simp only [beq_eq_false_iff_ne, ne_eq]; omega
  by_cases h8 : bs.length < 8
  all_goals
    go_enter Try.func25, Try.ntmps25
    go_wp2_with (fail)
    refine HF.out.mono ?_
    rintro e w1 ⟨rfl, rfl⟩
    go_wp2_with (fail)
    refine HP.out.mono ?_
    rintro e w1 ⟨rfl, rfl⟩
    go_wp2_with (fail)
    refine HN.out.mono ?_
    rintro e w1 ⟨rfl, rfl⟩
    go_wp2_with (fail)
    go_ret3
    exact ⟨_, rfl, OB.nil _ _, Fr.refl _ _⟩

theorem le_unle (xs : List UInt8) : le (unle xs) xs.length = xs := by
  induction xs with
  | nil => rfl
  | cons c r ih =>
    have h1 : UInt8.ofNat (unle (c :: r)) = c := by
      apply UInt8.toNat_inj.1
      rw [UInt8.toNat_ofNat']
      have := c.toNat_lt
      simp only [unle]
      omega
    have h2 : unle (c :: r) / 256 = unle r := by
      have := c.toNat_lt
      simp only [unle]
      omega
    rw [List.length_cons, le, h1, h2, ih]

theorem unle_le (n k : Nat) (h : n < 256 ^ k) : unle (le n k) = n := by
  induction k generalizing n with
  | zero => simp at h; subst h; rfl
  | succ k ih =>
    rw [le, unle, UInt8.toNat_ofNat', ih (n / 256) (by rw [Nat.pow_succ] at h; omega)]
    omega

/-- four bytes are a number's just if they are the number -/
theorem four_iff (xs : List UInt8) (s : Nat) (hx : xs.length = 4) (hs : s < 4294967296) : xs = le s 4 ↔ unle xs = s := by
  constructor
  · rintro rfl
    exact unle_le s 4 (by simpa using hs)
  · rintro rfl
    have := le_unle xs
    rw [hx] at this
    exact this.symm

set_option maxRecDepth 100000 in
set_option maxHeartbeats 1000000 in
theorem taker_ok (file place : Nat) (b o c : Nat) (bs : List UInt8) (w : World) (hf : file ≤ 4611686018427387903) (hp : place ≤ 4611686018427387903) (hlm : bs.length ≤ c) (hcm : c ≤ maxLen)
    (hc : ∀ i (h : i < bs.length), w.cell? ⟨b, o + i, none⟩ = some (byte bs[i])) (hl : 0 < lenOf bs ∧ lenOf bs ≤ 66000) (ht : 8 + lenOf bs ≤ bs.length) (hok : SumOk file place bs) :
    Calls Try.prog 25 #[.int .i64 (file : Int), .int .i64 (place : Int), .slice (some ⟨b, o, none⟩) bs.length c] w (TakePost w 0 ((8 + lenOf bs : Nat) : Int) (payOf bs)) := by
  have HF := Lib.hid (placed_yesR file w ⟨by omega, by omega⟩)
  have HP := Lib.hid (placed_yesR place w ⟨by omega, by omega⟩)
  have HN := Lib.hid (refnumber_of b o c bs w (by omega) hlm hcm hc)
  have HM := Lib.hid (RB.sub (m := 4) (n := 4) (c := c - 4) (by omega) (by omega) (by omega) hc)
  have HS := Lib.hid (RB.sub (m := 8) (n := lenOf bs) (c := c - 8) (by omega) (by omega) (by omega) hc)
  have hz : ((bs.length : Int) == 0) = false := by simp only [beq_eq_false_iff_ne, ne_eq]; omega
  have HPL := Lib.hid (payOf_length ht)
  have HPY : Hid (payOf bs = (bs.drop 8).take (lenOf bs)) := rfl
  have h4 : ((bs.drop 4).take 4).length = 4 := by simp; omega
  have hs := four_iff ((bs.drop 4).take 4) (sumOf file place (payOf bs)).toNat h4 (sumOf file place (payOf bs)).isLt
  have HOK := Lib.hid (decide_eq_true_iff.2 (show  ((bs.drop 4).take 4 = le (sumOf file place (payOf bs)).toNat 4) from hs.2 hok))
  have hsrc : Src (w.alloc (.cells #[] 5)) (.slice (some ⟨b, o + 8, none⟩) (lenOf bs) (c - 8)) (lenOf bs) 1 ((payOf bs).map byte) := by
    have h := (HS.out.fr (Fr.alloc (Fr.refl (fun _ => False) w) (.cells #[] 5))).src
    rw [← HPY.out, HPL.out] at h
    exact h
  have HSRC := Lib.hid hsrc
  have hcm2 := hcm
  unfold maxLen at hcm2
  clear hc hok hs h4 hsrc
  obtain ⟨hl1, hl2⟩ := hl
  generalize lenOf bs = k at *
  have hk0 : ((k : Int) == 0) = false := by simp only [beq_eq_false_iff_ne, ne_eq]; omega
  go_enter Try.func25, Try.ntmps25
  go_wp2_with (fail)
  refine HF.out.mono ?_
  rintro e w1 ⟨rfl, rfl⟩
  go_wp2_with (fail)
  refine HP.out.mono ?_
  rintro e w1 ⟨rfl, rfl⟩
  go_wp2_with (fail)
  refine HN.out.mono ?_
  rintro e w1 ⟨rfl, rfl⟩
  go_wp2_with (at_builtin; refine wpList_append_Own _ rfl _ _ 22 rfl 5 (.int .u8 0) 1 1 Try.underlying22 Try.info5 rfl (by decide) (.slice (some ⟨w.heap.size, 0, none⟩) 0 0) 0 [] rfl (empty_src w) (.slice (some ⟨b, o + 8, none⟩) k (c - 8)) k ((payOf bs).map byte) (by first | rfl | (simp only [Nat.add_sub_cancel_left]; rfl)) HSRC.out (by unfold maxLen; omega) (by omega) ?_; intro v1 w1 hv1 hf1 hn1 _)
  have hf2 : Fr (fun _ => False) w w1 := ((Fr.refl _ w).alloc _).trans hf1 (fun i hi he => by simp only [Value.ownBlock, Option.some.injEq] at he; omega)
  have hv2 : OB 5 (fun k => w.heap.size ≤ k) w1 v1 (payOf bs) := by
    rw [Nat.zero_add, List.nil_append, ← HPL.out] at hv1
    exact Own.mono hv1 (fun k _ hk => hk.elim id (fun h => by simp at h; omega))
  have HV1 := Lib.hid hv2
  have HF1 := Lib.hid hf2
  clear hv1 hf1 hn1 hf2 hv2
  go_wp2_with (fail)
  refine (rsum_any file place v1 (payOf bs) w1 HV1.out.rb hf hp (by rw [HPL.out]; omega)).mono ?_
  rintro e w2 ⟨v2, rfl, hv2, hf2, _⟩
  have HV2 := Lib.hid (hv3_of HV1.out hf2)
  have HF2 := Lib.hid (none_fr HF1.out hf2)
  have HSM := Lib.hid (same_anyR _ v2 _ _ w2 (HM.out.fr HF2.out) hv2.rb)
  clear hv2 hf2
  go_wp2_with (fail)
  refine HSM.out.mono ?_
  rintro e w3 ⟨he, m, rfl⟩
  rw [HOK.out] at he
  subst he
  go_wp2_with (fail)
  go_ret3
  exact ⟨_, rfl, Own.drewN HV2.out m, HF2.out.drewN m⟩

set_option maxRecDepth 100000 in
set_option maxHeartbeats 1000000 in
theorem taker_bad (file place : Nat) (b o c : Nat) (bs : List UInt8) (w : World) (hf : file ≤ 4611686018427387903) (hp : place ≤ 4611686018427387903) (hlm : bs.length ≤ c) (hcm : c ≤ maxLen)
    (hc : ∀ i (h : i < bs.length), w.cell? ⟨b, o + i, none⟩ = some (byte bs[i])) (hl : 0 < lenOf bs ∧ lenOf bs ≤ 66000) (ht : 8 + lenOf bs ≤ bs.length) (hok : ¬ SumOk file place bs) :
    Calls Try.prog 25 #[.int .i64 (file : Int), .int .i64 (place : Int), .slice (some ⟨b, o, none⟩) bs.length c] w (TakePost w 23 0 []) := by
  have HF := Lib.hid (placed_yesR file w ⟨by omega, by omega⟩)
  have HP := Lib.hid (placed_yesR place w ⟨by omega, by omega⟩)
  have HN := Lib.hid (refnumber_of b o c bs w (by omega) hlm hcm hc)
  have HM := Lib.hid (RB.sub (m := 4) (n := 4) (c := c - 4) (by omega) (by omega) (by omega) hc)
  have HS := Lib.hid (RB.sub (m := 8) (n := lenOf bs) (c := c - 8) (by omega) (by omega) (by omega) hc)
  have hz : ((bs.length : Int) == 0) = false := by simp only [beq_eq_false_iff_ne, ne_eq]; omega
  have HPL := Lib.hid (payOf_length ht)
  have HPY : Hid (payOf bs = (bs.drop 8).take (lenOf bs)) := rfl
  have h4 : ((bs.drop 4).take 4).length = 4 := by simp; omega
  have hs := four_iff ((bs.drop 4).take 4) (sumOf file place (payOf bs)).toNat h4 (sumOf file place (payOf bs)).isLt
  have hok3 : decide ((bs.drop 4).take 4 = le (sumOf file place (payOf bs)).toNat 4) = false := decide_eq_false_iff_not.2 (fun h => hok (hs.1 h))
  have HOK := Lib.hid hok3
  have hsrc : Src (w.alloc (.cells #[] 5)) (.slice (some ⟨b, o + 8, none⟩) (lenOf bs) (c - 8)) (lenOf bs) 1 ((payOf bs).map byte) := by
    have h := (HS.out.fr (Fr.alloc (Fr.refl (fun _ => False) w) (.cells #[] 5))).src
    rw [← HPY.out, HPL.out] at h
    exact h
  have HSRC := Lib.hid hsrc
  have hcm2 := hcm
  unfold maxLen at hcm2
  clear hc hok hok3 hs h4 hsrc
  obtain ⟨hl1, hl2⟩ := hl
  generalize lenOf bs = k at *
  have hk0 : ((k : Int) == 0) = false := by simp only [beq_eq_false_iff_ne, ne_eq]; omega
  go_enter Try.func25, Try.ntmps25
  go_wp2_with (fail)
  refine HF.out.mono ?_
  rintro e w1 ⟨rfl, rfl⟩
  go_wp2_with (fail)
  refine HP.out.mono ?_
  rintro e w1 ⟨rfl, rfl⟩
  go_wp2_with (fail)
  refine HN.out.mono ?_
  rintro e w1 ⟨rfl, rfl⟩
  go_wp2_with (at_builtin; refine wpList_append_Own _ rfl _ _ 22 rfl 5 (.int .u8 0) 1 1 Try.underlying22 Try.info5 rfl (by decide) (.slice (some ⟨w.heap.size, 0, none⟩) 0 0) 0 [] rfl (empty_src w) (.slice (some ⟨b, o + 8, none⟩) k (c - 8)) k ((payOf bs).map byte) (by first | rfl | (simp only [Nat.add_sub_cancel_left]; rfl)) HSRC.out (by unfold maxLen; omega) (by omega) ?_; intro v1 w1 hv1 hf1 hn1 _)
  have hf2 : Fr (fun _ => False) w w1 := ((Fr.refl _ w).alloc _).trans hf1 (fun i hi he => by simp only [Value.ownBlock, Option.some.injEq] at he; omega)
  have hv2 : OB 5 (fun k => w.heap.size ≤ k) w1 v1 (payOf bs) := by
    rw [Nat.zero_add, List.nil_append, ← HPL.out] at hv1
    exact Own.mono hv1 (fun k _ hk => hk.elim id (fun h => by simp at h; omega))
  have HV1 := Lib.hid hv2
  have HF1 := Lib.hid hf2
  clear hv1 hf1 hn1 hf2 hv2
  go_wp2_with (fail)
  refine (rsum_any file place v1 (payOf bs) w1 HV1.out.rb hf hp (by rw [HPL.out]; omega)).mono ?_
  rintro e w2 ⟨v2, rfl, hv2, hf2, _⟩
  have HV2 := Lib.hid (hv3_of HV1.out hf2)
  have HF2 := Lib.hid (none_fr HF1.out hf2)
  have HSM := Lib.hid (same_anyR _ v2 _ _ w2 (HM.out.fr HF2.out) hv2.rb)
  clear hv2 hf2
  go_wp2_with (fail)
  refine HSM.out.mono ?_
  rintro e w3 ⟨he, m, rfl⟩
  rw [HOK.out] at he
  subst he
  go_wp2_with (fail)
  go_ret3
  exact ⟨_, rfl, OB.nil _ _, HF2.out.drewN m⟩

theorem taker_any (file place : Int) (v : Value) (bs : List UInt8) (w : World) (hv : RB w v bs) : Calls Try.prog 25 #[.int .i64 file, .int .i64 place, v] w (TakeAns w file place bs) := by
  by_cases hp : Placed file ∧ Placed place
  · obtain ⟨hf, hpl⟩ := hp
    have hlm := hv.len
    unfold maxLen at hlm
    by_cases h4 : bs.length < 4
    · obtain ⟨a, c, rfl, _⟩ := hv
      have hh := taker_short file place a bs.length c w hf hpl h4
      by_cases h0 : bs.length = 0
      · have he : errOf file place bs = 20 := by unfold errOf; simp [hf, hpl, h0]
        rw [ans_err he (by decide)]
        rw [if_pos h0] at hh
        exact hh
      · have he : errOf file place bs = 21 := by unfold errOf; rw [if_neg (by simp [hf, hpl]), if_neg h0, if_pos h4]
        rw [ans_err he (by decide)]
        rw [if_neg h0] at hh
        exact hh
    · rcases hv.open' with ⟨_, _, _, rfl⟩ | ⟨b, o, c, rfl, hc1, hc2, _, hc⟩
      · simp at h4
      · by_cases hl : lenOf bs = 0 ∨ 66000 < lenOf bs
        · have he : errOf file place bs = 22 := by unfold errOf; rw [if_neg (by simp [hf, hpl]), if_neg (by omega), if_neg h4, if_pos hl]
          rw [ans_err he (by decide)]
          exact taker_long file place b o c bs w hf hpl (by omega) hc1 hc2 hc hl
        · by_cases ht : bs.length < 8 + lenOf bs
          · have he : errOf file place bs = 21 := by unfold errOf; rw [if_neg (by simp [hf, hpl]), if_neg (by omega), if_neg h4, if_neg hl, if_pos ht]
            rw [ans_err he (by decide)]
            exact taker_torn file place b o c bs w hf hpl (by omega) hc1 hc2 hc (by omega) ht
          · obtain ⟨f, rfl, hf1⟩ := hf.nat
            obtain ⟨p, rfl, hp1⟩ := hpl.nat
            by_cases hs : SumOk f p bs
            · have he : errOf f p bs = 0 := by unfold errOf; rw [if_neg (by simp [hf, hpl]), if_neg (by omega), if_neg h4, if_neg hl, if_neg ht, if_pos (by simpa using hs)]
              rw [ans_ok he]
              exact taker_ok f p b o c bs w hf1 hp1 hc1 hc2 hc (by omega) (by omega) hs
            · have he : errOf f p bs = 23 := by unfold errOf; rw [if_neg (by simp [hf, hpl]), if_neg (by omega), if_neg h4, if_neg hl, if_neg ht, if_neg (by simpa using hs)]
              rw [ans_err he (by decide)]
              exact taker_bad f p b o c bs w hf1 hp1 hc1 hc2 hc (by omega) (by omega) hs
  · have he : errOf file place bs = 24 := by unfold errOf; rw [if_pos hp]
    rw [ans_err he (by decide)]
    exact taker_arg file place v w hp

end Go.Proofs.Ytgobbgklmjnnlaa
