/- FrameElsewhere, walked. -/
import Derived.Test.YtgobbgklmjnnlaaFrBack
import Derived.Test.YtgobbgklmjnnlaaFrCrc
namespace Go.Proofs.Ytgobbgklmjnnlaa
open Go.RowKit Go.Sb

theorem le_small (n : Nat) (h : n < 4294967296) : le n 8 = le n 4 ++ [0, 0, 0, 0] := by
  rw [le_snoc n 7, le_snoc n 6, le_snoc n 5, le_snoc n 4]
  have e4 : n / 256 ^ 4 = 0 := by omega
  have e5 : n / 256 ^ 5 = 0 := by omega
  have e6 : n / 256 ^ 6 = 0 := by omega
  have e7 : n / 256 ^ 7 = 0 := by omega
  rw [e4, e5, e6, e7]
  simp

theorem le_differ (a b : Nat) (r : BitVec 32) (ha : a < 4294967296) (hb : b < 4294967296) (hne : a ≠ b) : overB r (le a 8) ≠ overB r (le b 8) := by
  refine overB_ne _ _ _ 0 (by rw [le_length, le_length]) ?_ ?_
  · refine bit_of_ne _ _ (by rw [le_length, le_length]) (fun h => hne ?_)
    have h1 := unle_le a 8 (by omega)
    have h2 := unle_le b 8 (by omega)
    rw [h] at h1
    exact h1.symm.trans h2
  · intro i hi hd
    rw [le_length] at hi
    refine ⟨Nat.zero_le _, ?_⟩
    apply Classical.byContradiction
    intro hge
    apply hd
    unfold bitAt
    rw [le_small a ha, le_small b hb, List.getD_eq_getElem?_getD, List.getD_eq_getElem?_getD, List.getElem?_append_right (by rw [le_length]; omega), List.getElem?_append_right (by rw [le_length]; omega), le_length, le_length]

theorem sum_place (f p q : Nat) (ps : List UInt8) (hp : p < 4294967296) (hq : q < 4294967296) (hne : p ≠ q) : (sumOf f p ps).toNat ≠ (sumOf f q ps).toNat := by
  intro h
  have h := BitVec.eq_of_toNat_eq h
  unfold sumOf crcB at h
  have h1 : overB (BitVec.allOnes 32) (le f 8 ++ le p 8 ++ ps) = overB (BitVec.allOnes 32) (le f 8 ++ le q 8 ++ ps) := by
    have := congrArg (fun x => ~~~ x) h
    simpa using this
  rw [overB_app2, overB_app2, overB_app2 _ (le f 8 ++ le q 8), overB_app2 _ (le f 8) (le q 8)] at h1
  exact le_differ p q _ hp hq hne (overB_inj _ _ _ h1)

theorem sum_file (f g p : Nat) (ps : List UInt8) (hf : f < 4294967296) (hg : g < 4294967296) (hne : f ≠ g) : (sumOf f p ps).toNat ≠ (sumOf g p ps).toNat := by
  intro h
  have h := BitVec.eq_of_toNat_eq h
  unfold sumOf crcB at h
  have h1 : overB (BitVec.allOnes 32) (le f 8 ++ le p 8 ++ ps) = overB (BitVec.allOnes 32) (le g 8 ++ le p 8 ++ ps) := by
    have := congrArg (fun x => ~~~ x) h
    simpa using this
  rw [List.append_assoc, List.append_assoc, overB_app2, overB_app2 _ (le g 8)] at h1
  exact le_differ f g _ hf hg hne (overB_inj _ _ _ h1)

theorem errOf_other (f p g q : Nat) (ps : List UInt8) (hf : f < 4294967296) (hp : p < 4294967296) (hg : g < 4294967296) (hq : q < 4294967296) (h0 : 0 < ps.length) (h1 : ps.length ≤ 66000) (hone : f = g ∨ p = q) :
    errOf (g : Int) (q : Int) (frameOf f p ps) = if f = g ∧ p = q then 0 else 23 := by
  have hG : Placed (g : Int) := ⟨by omega, by omega⟩
  have hQ : Placed (q : Int) := ⟨by omega, by omega⟩
  have h := (errOf_frame hG hQ (f := g) (p := q) (by simp) (by simp) (ps := ps) (bh := []) rfl h0 h1 (sum_lt f p ps)).1
  rw [List.append_nil, ← frame_made] at h
  rw [h]
  by_cases he : f = g ∧ p = q
  · obtain ⟨rfl, rfl⟩ := he
    simp
  · rw [if_neg he, if_neg]
    rcases hone with rfl | rfl
    · exact sum_place f p q ps hp hq (fun h => he ⟨rfl, h⟩)
    · exact sum_file f g p ps hf hg (fun h => he ⟨h, rfl⟩)

def Small (n : Int) : Prop := 0 ≤ n ∧ n < 4294967296

set_option maxRecDepth 100000 in
set_option maxHeartbeats 1000000 in
theorem else_big (file place other : Int) (v3 : Value) (w : World) (h : ¬ (Small file ∧ Small place ∧ Small other)) :
    Calls Try.prog 8 #[.int .i64 file, .int .i64 place, .int .i64 other, v3] w fun e w' => e = .returned (.bool true) ∧ Fr (fun _ => False) w w' := by
  unfold Small at h
  by_cases f0 : 0 ≤ file
  · by_cases f1 : file < 4294967296
    · by_cases p0 : 0 ≤ place
      · by_cases p1 : place < 4294967296
        · by_cases o0 : 0 ≤ other
          · have o1 : ¬ other < 4294967296 := fun o1 => h ⟨⟨f0, f1⟩, ⟨p0, p1⟩, o0, o1⟩
            clear h
            go_enter Try.func8, Try.ntmps8
            go_wp2_with (fail)
            refine (shown_any w).mono ?_
            rintro e w1 ⟨rfl, hf1⟩
            have HF1 := Lib.hid hf1
            clear hf1
            go_wp2_with (fail)
            go_ret
            exact ⟨rfl, HF1.out⟩
          · clear h
            go_enter Try.func8, Try.ntmps8
            go_wp2_with (fail)
            refine (shown_any w).mono ?_
            rintro e w1 ⟨rfl, hf1⟩
            have HF1 := Lib.hid hf1
            clear hf1
            go_wp2_with (fail)
            go_ret
            exact ⟨rfl, HF1.out⟩
        · clear h
          go_enter Try.func8, Try.ntmps8
          go_wp2_with (fail)
          refine (shown_any w).mono ?_
          rintro e w1 ⟨rfl, hf1⟩
          have HF1 := Lib.hid hf1
          clear hf1
          go_wp2_with (fail)
          go_ret
          exact ⟨rfl, HF1.out⟩
      · clear h
        go_enter Try.func8, Try.ntmps8
        go_wp2_with (fail)
        refine (shown_any w).mono ?_
        rintro e w1 ⟨rfl, hf1⟩
        have HF1 := Lib.hid hf1
        clear hf1
        go_wp2_with (fail)
        go_ret
        exact ⟨rfl, HF1.out⟩
    · clear h
      go_enter Try.func8, Try.ntmps8
      go_wp2_with (fail)
      refine (shown_any w).mono ?_
      rintro e w1 ⟨rfl, hf1⟩
      have HF1 := Lib.hid hf1
      clear hf1
      go_wp2_with (fail)
      go_ret
      exact ⟨rfl, HF1.out⟩
  · clear h
    go_enter Try.func8, Try.ntmps8
    go_wp2_with (fail)
    refine (shown_any w).mono ?_
    rintro e w1 ⟨rfl, hf1⟩
    have HF1 := Lib.hid hf1
    clear hf1
    go_wp2_with (fail)
    go_ret
    exact ⟨rfl, HF1.out⟩

set_option maxRecDepth 100000 in
set_option maxHeartbeats 1000000 in
theorem else_small (f p o : Nat) (v3 : Value) (ps : List UInt8) (w : World) (h3 : RB w v3 ps) (hf : f < 4294967296) (hp : p < 4294967296) (ho : o < 4294967296) :
    Calls Try.prog 8 #[.int .i64 (f : Int), .int .i64 (p : Int), .int .i64 (o : Int), v3] w fun e w' => e = .returned (.bool true) ∧ Fr (fun _ => False) w w' := by
  have H3 := Lib.hid h3
  obtain ⟨a3, c3, rfl, _⟩ := h3
  have hF : Placed (f : Int) := ⟨by omega, by omega⟩
  have hP : Placed (p : Int) := ⟨by omega, by omega⟩
  have hO : Placed (o : Int) := ⟨by omega, by omega⟩
  have hf' : (f : Int) < 4294967296 := by omega
  have hp' : (p : Int) < 4294967296 := by omega
  have ho' : (o : Int) < 4294967296 := by omega
  by_cases hm : 0 < ps.length ∧ ps.length ≤ 66000
  · have HM : Hid (∀ w1, Calls Try.prog 26 #[.int .i64 (f : Int), .int .i64 (p : Int), .slice a3 ps.length c3] w1 fun e w' => e = .returned (.bool true) ∧ w1 = w') := fun w1 => may_yes f p a3 ps.length c3 w1 hF hP hm.1 hm.2
    have HE : Hid (errM (f : Int) (p : Int) ps = 0) := errM_may ⟨hF, hP, hm.1, hm.2⟩
    have HX := Lib.hid (errOf_other f p f o ps hf hp hf ho hm.1 hm.2 (.inl rfl))
    have HY := Lib.hid (errOf_other f p o p ps hf hp ho hp hm.1 hm.2 (.inr rfl))
    clear hm hF hP hO
    go_enter Try.func8, Try.ntmps8
    go_wp2_with (fail)
    refine (shown_any w).mono ?_
    rintro e w1 ⟨rfl, hf1⟩
    have HF1 := Lib.hid hf1
    clear hf1
    go_wp2_with (fail)
    refine (HM.out w1).mono ?_
    rintro e w2 ⟨rfl, rfl⟩
    go_wp2_with (fail)
    have hmk := make_any f p _ ps w1 (H3.out.fr HF1.out)
    rw [mans_ok HE.out] at hmk
    refine hmk.mono ?_
    rintro e w2 ⟨v4, rfl, hv4, hf2⟩
    have HF2 := Lib.hid (none_fr HF1.out hf2)
    simp only [Int.toNat_natCast] at hv4
    have HV4 := Lib.hid hv4
    clear hv4 hf2 hmk
    go_wp2_with (fail)
    refine (take_any f o v4 _ w2 HV4.out.rb).mono ?_
    rintro e w3 ⟨v5, rfl, hv5, hf3⟩
    have HF3 := Lib.hid (none_fr HF2.out hf3)
    have HV5 := Lib.hid (hv3_of HV4.out hf3)
    clear hv5 hf3
    go_wp2_with (fail)
    refine (take_any o p v4 _ w3 HV5.out.rb).mono ?_
    rintro e w4 ⟨v6, rfl, hv6, hf4⟩
    have HF4 := Lib.hid (none_fr HF3.out hf4)
    clear hv6 hf4
    generalize manyOf _ _ _ = mn1
    generalize manyOf _ _ _ = mn2
    by_cases e1 : p = o
    · have e1' : ((p : Int) == (o : Int)) = true := by simp [e1]
      have hx : errOf (f : Int) (o : Int) (frameOf f p ps) = 0 := by rw [HX.out, if_pos (by simp [e1])]
      rw [hx]
      by_cases e2 : f = o
      · have e2' : ((f : Int) == (o : Int)) = true := by simp [e2]
        have hy : errOf (o : Int) (p : Int) (frameOf f p ps) = 0 := by rw [HY.out, if_pos (by simp [e2])]
        rw [hy]
        clear e1 e2 hx hy
        go_wp2_with (fail)
        go_ret
        exact ⟨rfl, HF4.out⟩
      · have e2' : ((f : Int) == (o : Int)) = false := by simp only [beq_eq_false_iff_ne, ne_eq]; omega
        have hy : errOf (o : Int) (p : Int) (frameOf f p ps) = 23 := by rw [HY.out, if_neg (by simp [e2])]
        rw [hy]
        clear e1 e2 hx hy
        go_wp2_with (fail)
        go_ret
        exact ⟨rfl, HF4.out⟩
    · have e1' : ((p : Int) == (o : Int)) = false := by simp only [beq_eq_false_iff_ne, ne_eq]; omega
      have hx : errOf (f : Int) (o : Int) (frameOf f p ps) = 23 := by rw [HX.out, if_neg (by simp [e1])]
      rw [hx]
      by_cases e2 : f = o
      · have e2' : ((f : Int) == (o : Int)) = true := by simp [e2]
        have hy : errOf (o : Int) (p : Int) (frameOf f p ps) = 0 := by rw [HY.out, if_pos (by simp [e2])]
        rw [hy]
        clear e1 e2 hx hy
        go_wp2_with (fail)
        go_ret
        exact ⟨rfl, HF4.out⟩
      · have e2' : ((f : Int) == (o : Int)) = false := by simp only [beq_eq_false_iff_ne, ne_eq]; omega
        have hy : errOf (o : Int) (p : Int) (frameOf f p ps) = 23 := by rw [HY.out, if_neg (by simp [e2])]
        rw [hy]
        clear e1 e2 hx hy
        go_wp2_with (fail)
        go_ret
        exact ⟨rfl, HF4.out⟩
  · have HM : Hid (∀ w1, Calls Try.prog 26 #[.int .i64 (f : Int), .int .i64 (p : Int), .slice a3 ps.length c3] w1 fun e w' => e = .returned (.bool false) ∧ w1 = w') := fun w1 => may_no f p a3 ps.length c3 w1 (fun h => hm h.2.2)
    clear hm hF hP hO
    go_enter Try.func8, Try.ntmps8
    go_wp2_with (fail)
    refine (shown_any w).mono ?_
    rintro e w1 ⟨rfl, hf1⟩
    have HF1 := Lib.hid hf1
    clear hf1
    go_wp2_with (fail)
    refine (HM.out w1).mono ?_
    rintro e w2 ⟨rfl, rfl⟩
    go_wp2_with (fail)
    go_ret
    exact ⟨rfl, HF1.out⟩

theorem else_any (file place other : Int) (v3 : Value) (ps : List UInt8) (w : World) (h3 : RB w v3 ps) :
    Calls Try.prog 8 #[.int .i64 file, .int .i64 place, .int .i64 other, v3] w fun e w' => e = .returned (.bool true) ∧ Fr (fun _ => False) w w' := by
  by_cases h : Small file ∧ Small place ∧ Small other
  · obtain ⟨⟨f0, f1⟩, ⟨p0, p1⟩, o0, o1⟩ := h
    obtain ⟨f, rfl⟩ := Int.eq_ofNat_of_zero_le f0
    obtain ⟨p, rfl⟩ := Int.eq_ofNat_of_zero_le p0
    obtain ⟨o, rfl⟩ := Int.eq_ofNat_of_zero_le o0
    exact else_small f p o v3 ps w h3 (by omega) (by omega) (by omega)
  · exact else_big file place other v3 w h

end Go.Proofs.Ytgobbgklmjnnlaa
