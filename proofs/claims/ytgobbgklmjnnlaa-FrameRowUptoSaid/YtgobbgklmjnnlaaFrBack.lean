/- FrameBack, walked. -/
import Derived.Test.YtgobbgklmjnnlaaFrPlain
namespace Go.Proofs.Ytgobbgklmjnnlaa
open Go.RowKit Go.Sb

set_option maxRecDepth 100000 in
theorem may_yes (file place : Int) (a : Option Addr) (n c : Nat) (w : World) (hf : Placed file) (hp : Placed place) (h0 : 0 < n) (h1 : n ≤ 66000) :
    Calls Try.prog 26 #[.int .i64 file, .int .i64 place, .slice a n c] w fun e w' => e = .returned (.bool true) ∧ w = w' := by
  obtain ⟨f0, f1⟩ := hf
  obtain ⟨p0, p1⟩ := hp
  have h0' : (0 : Int) < (n : Int) := by omega
  have h1' : (n : Int) ≤ 66000 := by omega
  go_enter Try.func26, Try.ntmps26
  go_wp2_with (fail)
  go_ret
  exact ⟨rfl, rfl⟩

set_option maxRecDepth 100000 in
set_option maxHeartbeats 1000000 in
theorem may_no (file place : Int) (a : Option Addr) (n c : Nat) (w : World) (h : ¬ (Placed file ∧ Placed place ∧ 0 < n ∧ n ≤ 66000)) :
    Calls Try.prog 26 #[.int .i64 file, .int .i64 place, .slice a n c] w fun e w' => e = .returned (.bool false) ∧ w = w' := by
  unfold Placed at h
  by_cases f0 : 0 ≤ file
  · by_cases f1 : file ≤ 4611686018427387903
    · by_cases p0 : 0 ≤ place
      · by_cases p1 : place ≤ 4611686018427387903
        · by_cases h0 : (0 : Int) < (n : Int)
          · have h1 : ¬ (n : Int) ≤ 66000 := fun h1 => h ⟨⟨f0, f1⟩, ⟨p0, p1⟩, by omega, by omega⟩
            clear h
            go_enter Try.func26, Try.ntmps26
            go_wp2_with (fail)
            go_ret
            exact ⟨rfl, rfl⟩
          · have hn : n = 0 := by omega
            subst hn
            clear h
            go_enter Try.func26, Try.ntmps26
            go_wp2_with (fail)
            go_ret
            exact ⟨rfl, rfl⟩
        · clear h
          go_enter Try.func26, Try.ntmps26
          go_wp2_with (fail)
          go_ret
          exact ⟨rfl, rfl⟩
      · clear h
        go_enter Try.func26, Try.ntmps26
        go_wp2_with (fail)
        go_ret
        exact ⟨rfl, rfl⟩
    · clear h
      go_enter Try.func26, Try.ntmps26
      go_wp2_with (fail)
      go_ret
      exact ⟨rfl, rfl⟩
  · clear h
    go_enter Try.func26, Try.ntmps26
    go_wp2_with (fail)
    go_ret
    exact ⟨rfl, rfl⟩

theorem errM_may {file place : Int} {ps : List UInt8} (h : Placed file ∧ Placed place ∧ 0 < ps.length ∧ ps.length ≤ 66000) : errM file place ps = 0 := by
  unfold errM
  rw [if_neg (fun h' => h' ⟨h.1, h.2.1⟩), if_neg (by omega)]

theorem errM_not {file place : Int} {ps : List UInt8} (h : ¬ (Placed file ∧ Placed place ∧ 0 < ps.length ∧ ps.length ≤ 66000)) : errM file place ps ≠ 0 := fun he => h (errM_zero he)

set_option maxRecDepth 100000 in
set_option maxHeartbeats 1000000 in
theorem back_no (file place : Int) (v2 v3 : Value) (n4 : Int) (ps _os : List UInt8) (w : World) (h2 : RB w v2 ps) (h : ¬ (Placed file ∧ Placed place ∧ 0 < ps.length ∧ ps.length ≤ 66000)) :
    Calls Try.prog 6 #[.int .i64 file, .int .i64 place, v2, v3, .int .i64 n4] w fun e w' => e = .returned (.bool true) ∧ Fr (fun _ => False) w w' := by
  have H2 := Lib.hid h2
  obtain ⟨a2, c2, rfl, _⟩ := h2
  go_enter Try.func6, Try.ntmps6
  go_wp2_with (fail)
  refine (shown_any w).mono ?_
  rintro e w1 ⟨rfl, hf1⟩
  have HF1 := Lib.hid hf1
  clear hf1
  go_wp2_with (fail)
  have hm := make_any file place _ ps w1 (H2.out.fr HF1.out)
  rw [mans_err rfl (errM_not h)] at hm
  have hne : (errM file place ps == 0) = false := by simpa using errM_not h
  refine hm.mono ?_
  rintro e w2 ⟨v4, rfl, hv4, hf2⟩
  have HF2 := Lib.hid (none_fr HF1.out hf2)
  obtain ⟨a4, c4, rfl, _⟩ := hv4.rb
  have HM := Lib.hid (may_no file place a2 ps.length c2 w2 h)
  clear hv4 hf2 hm h
  generalize errM file place ps = E at *
  have hne2 : (E != 0) = true := by simpa using hne
  go_wp2_with (fail)
  refine HM.out.mono ?_
  rintro e w3 ⟨rfl, rfl⟩
  go_wp2_with (fail)
  go_ret
  exact ⟨rfl, HF2.out⟩

set_option maxRecDepth 100000 in
set_option maxHeartbeats 1000000 in
theorem back_yes (file place : Int) (v2 v3 : Value) (n4 : Int) (ps os : List UInt8) (w : World) (h2 : RB w v2 ps) (h3 : RB w v3 os) (h : Placed file ∧ Placed place ∧ 0 < ps.length ∧ ps.length ≤ 66000)
    (hs : os.length ≤ 140737488351232) :
    Calls Try.prog 6 #[.int .i64 file, .int .i64 place, v2, v3, .int .i64 n4] w fun e w' => e = .returned (.bool true) ∧ Fr (fun _ => False) w w' := by
  have H2 := Lib.hid h2
  have H3 := Lib.hid h3
  obtain ⟨a2, c2, rfl, _⟩ := h2
  clear h3
  go_enter Try.func6, Try.ntmps6
  go_wp2_with (fail)
  refine (shown_any w).mono ?_
  rintro e w1 ⟨rfl, hf1⟩
  have HF1 := Lib.hid hf1
  clear hf1
  go_wp2_with (fail)
  have hm := make_any file place _ ps w1 (H2.out.fr HF1.out)
  rw [mans_ok (errM_may h)] at hm
  refine hm.mono ?_
  rintro e w2 ⟨v4, rfl, hv4, hf2⟩
  have HF2 := Lib.hid (none_fr HF1.out hf2)
  have HM := Lib.hid (may_yes file place a2 ps.length c2 w2 h.1 h.2.1 h.2.2.1 h.2.2.2)
  obtain ⟨hF, hP, hl0, hl1⟩ := h
  have HT := Lib.hid (take_frame hF hP rfl rfl (ps := ps) os hl0 hl1)
  have hlen := frame_len file.toNat place.toNat ps
  obtain ⟨g4, c4, rfl, hc4, hc4'⟩ := Own.some hv4 (by omega)
  have HCUT := Lib.hid (fun c (h1 : 0 < c) (h2 : c < 8 + ps.length) => take_cut hF hP (f := file.toNat) (p := place.toNat) hl0 hl1 h1 h2)
  rw [hlen] at hv4
  have HV4 := Lib.hid hv4
  clear hv4 hf2 hm
  generalize frameOf file.toNat place.toNat ps = fr at *
  rw [hlen]
  have HLEN := Lib.hid hlen
  go_wp2_with (fail)
  refine HM.out.mono ?_
  rintro e w3 ⟨rfl, rfl⟩
  clear hlen
  go_wp2_with (fail)
  refine (copied_any _ fr w2 HV4.out.rb (by have := HLEN.out; omega)).mono ?_
  rintro e w3 ⟨v5, rfl, hv5, hf3, hn5⟩
  have HV5 := Lib.hid hv5
  have HB := Lib.hid (hv3_of HV4.out hf3)
  have HF3 := Lib.hid (none_fr HF2.out hf3)
  have hs3 := hf3.size
  clear hv5 hf3
  go_wp2_with (at_builtin; refine wpList_append_Own _ rfl _ _ 22 rfl 5 (.int .u8 0) 1 1 Try.underlying22 Try.info5 rfl (by decide) v5 fr.length (fr.map byte) rfl HV5.out v3 os.length (os.map byte) rfl ((H3.out.fr HF3.out).src) (by have := HLEN.out; unfold maxLen; omega) (by have := HLEN.out; omega) ?_; intro v6 w6 hv6 hf6 hn6 hd6; have HV6 := Lib.hid (OB.app (G := fun k => w2.heap.size ≤ k) hv6 (fun _ h => h) (fun k h => Nat.le_trans hs3 h)); have HF6 := Lib.hid (HF3.out.trans hf6 (fun j hj he => by have := (Own.block HV5.out j he).1; have := HF2.out.size; omega)); have HB6 := Lib.hid (OB.of HB.out (fun k hk => hf6.block k (Own.block HB.out k hk).2 (fun h => by have := (Own.block HV5.out k h).1; have := (Own.block HV4.out k hk).2; omega))); clear hv6 hf6 hn6 hd6)
  refine (take_any file place v6 (fr ++ os) w6 HV6.out.rb).mono ?_
  obtain ⟨t1, t2, t3⟩ := HT.out
  rw [ans_ok t1]
  unfold manyOf at t2
  rw [if_pos t1] at t2
  unfold restOf at t3
  rw [if_pos t1] at t3
  rw [t2, t3]
  rintro e w7 ⟨v7, rfl, hv7, hf7⟩
  have HF7 := Lib.hid (none_fr HF6.out hf7)
  have HB7 := Lib.hid (hv3_of HB6.out hf7)
  have HSM := Lib.hid (same_any _ _ _ _ w7 hv7.rb (H2.out.fr HF7.out))
  rw [decide_eq_true rfl] at HSM
  clear hv7 hf7 t1 t2 t3
  have hne1 : (((8 + ps.length : Nat) : Int) != ((8 + ps.length : Nat) : Int)) = false := by simp
  have hne2 : (((8 + ps.length : Nat) : Int) != (ps.length : Int) + 8) = false := by simp; omega
  go_wp2_with (fail)
  refine HSM.out.mono ?_
  rintro e w8 ⟨rfl, m1, rfl⟩
  by_cases hc1 : n4 < 1
  · go_wp2_with (fail)
    go_ret
    exact ⟨rfl, HF7.out.drewN m1⟩
  · by_cases hc2 : ((8 + ps.length : Nat) : Int) ≤ n4
    · go_wp2_with (fail)
      go_ret
      exact ⟨rfl, HF7.out.drewN m1⟩
    · obtain ⟨c, rfl, hcb⟩ : ∃ c : Nat, n4 = (c : Int) ∧ c < 8 + ps.length := ⟨n4.toNat, by omega, by omega⟩
      have hc0 : 0 < c := by omega
      have HC := Lib.hid (HCUT.out c hc0 hcb)
      have HR : Hid (RB (w7.drewN m1) (.slice (some ⟨g4, 0, none⟩) c c4) (fr.take c)) := by
        have h := OB.cutn (n := c) HB7.out (by have := HLEN.out; omega)
        exact RB.drewN h.rb m1
      unfold maxLen at hc4'
      have hcc : c ≤ c4 := by have := HLEN.out; omega
      go_wp2_with (fail)
      refine (take_any file place _ (fr.take c) _ HR.out).mono ?_
      rw [ans_err HC.out (by decide)]
      rintro e w9 ⟨v9, rfl, hv9, hf9⟩
      have HF9 := Lib.hid (none_fr (HF7.out.drewN m1) hf9)
      obtain ⟨a9, c9, rfl, _⟩ := hv9.rb
      clear hv9 hf9
      go_wp2_with (fail)
      go_ret
      exact ⟨rfl, HF9.out⟩

theorem back_any (file place : Int) (v2 v3 : Value) (n4 : Int) (ps os : List UInt8) (w : World) (h2 : RB w v2 ps) (h3 : RB w v3 os) (hs : os.length ≤ 140737488351232) :
    Calls Try.prog 6 #[.int .i64 file, .int .i64 place, v2, v3, .int .i64 n4] w fun e w' => e = .returned (.bool true) ∧ Fr (fun _ => False) w w' := by
  by_cases h : Placed file ∧ Placed place ∧ 0 < ps.length ∧ ps.length ≤ 66000
  · exact back_yes file place v2 v3 n4 ps os w h2 h3 h hs
  · exact back_no file place v2 v3 n4 ps os w h2 h

end Go.Proofs.Ytgobbgklmjnnlaa
