/- The reference's sum and Make. -/
import Derived.Test.YtgobbgklmjnnlaaFrMake
namespace Go.Proofs.Ytgobbgklmjnnlaa
open Go.RowKit Go.Sb

theorem none_fr {w a b : World} (h : Fr (fun _ => False) w a) (k : Fr (fun _ => False) a b) : Fr (fun _ => False) w b := h.trans k (fun _ _ h => h)

set_option maxRecDepth 100000 in
set_option maxHeartbeats 1000000 in
theorem rsum_any (file place : Nat) (v : Value) (ps : List UInt8) (w : World) (hv : RB w v ps) (hf : file ≤ 4611686018427387903) (hp : place ≤ 4611686018427387903) (hm : ps.length ≤ 140737488360000) :
    Calls Try.prog 40 #[.int .i64 (file : Int), .int .i64 (place : Int), v] w (NewBytes w (le (sumOf file place ps).toNat 4)) := by
  have HV := Lib.hid hv
  clear hv
  go_enter Try.func40, Try.ntmps40
  go_wp2_with (fail)
  refine (low_any file 8 w (by omega) (by decide)).mono ?_
  rintro e w1 ⟨v1, rfl, hv1, hf1, _⟩
  have HV1 := Lib.hid hv1
  have HF1 := Lib.hid hf1
  clear hv1 hf1
  go_wp2_with (fail)
  refine (low_any place 8 w1 (by omega) (by decide)).mono ?_
  rintro e w2 ⟨v2, rfl, hv2, hf2, _⟩
  have HV2 := Lib.hid (hv3_of HV1.out hf2)
  have HL2 := Lib.hid hv2
  have HF2 := Lib.hid (none_fr HF1.out hf2)
  clear hv2 hf2
  go_wp2_with (first
    | (at_builtin; refine wpList_append_Own _ rfl _ _ 22 rfl 5 (.int .u8 0) 1 1 Try.underlying22 Try.info5 rfl (by decide) v1 _ _ rfl HV2.out v2 _ _ rfl HL2.out.rb.src (by simp only [le_length]; unfold maxLen; omega) (by simp only [le_length]; omega) ?_; intro v5 w5 hv5 hf5 _ _; have HV5 := Lib.hid (OB.app (G := fun k => w.heap.size ≤ k) hv5 (fun _ h => h) (fun k h => Nat.le_trans HF2.out.size h)); have HF5 := Lib.hid (HF2.out.trans hf5 (fun j hj he => absurd (HV2.out.block j he).1 (by omega))); have HP5 := Lib.hid (HV.out.fr HF5.out); clear hv5 hf5)
    | (at_builtin; refine wpList_append_Own _ rfl _ _ 22 rfl 5 (.int .u8 0) 1 1 Try.underlying22 Try.info5 rfl (by decide) v5 _ _ rfl HV5.out _ _ _ rfl HP5.out.src (by simp only [List.length_append, le_length]; unfold maxLen; omega) (by simp only [List.length_append, le_length]; omega) ?_; intro v6 w6 hv6 hf6 _ _))
  have HV6 := Lib.hid (OB.app (G := fun k => w.heap.size ≤ k) hv6 (fun _ h => h) (fun k h => Nat.le_trans HF5.out.size h))
  have HF6 := Lib.hid (HF5.out.trans hf6 (fun j hj he => absurd (HV5.out.block j he).1 (by omega)))
  clear hv6 hf6
  have HSM := Lib.hid (refsum_any v6 _ w6 HV6.out.rb)
  have hsl : (sumOf file place ps).toNat ≤ 4294967295 := Nat.le_of_lt_succ (sumOf file place ps).isLt
  obtain ⟨s, hs⟩ : ∃ s, (sumOf file place ps).toNat = s := ⟨_, rfl⟩
  have hs2 : (crcB (le file 8 ++ le place 8 ++ ps)).toNat = s := hs
  have HS := Lib.hid hs
  have HS2 := Lib.hid hs2
  rw [hs] at hsl
  clear hs hs2
  go_wp2_with (fail)
  refine HSM.out.mono ?_
  rintro e w7 ⟨rfl, rfl⟩
  rw [HS2.out]
  go_wp2_with (fail)
  refine (low_any s 4 w6 (by omega) (by decide)).mono ?_
  rintro e w7 ⟨v7, rfl, hv7, hf7, hn7⟩
  have HV7 := Lib.hid hv7
  have HF7 := Lib.hid hf7
  have HN7 := Lib.hid hn7
  clear hv7 hf7 hn7
  go_wp2_with (fail)
  go_ret
  refine ⟨_, rfl, ?_, none_fr HF6.out HF7.out, HN7.out⟩
  rw [HS.out]
  exact Own.mono HV7.out (fun k _ h => Nat.le_trans HF6.out.size h)

set_option maxRecDepth 100000 in
set_option maxHeartbeats 1000000 in
theorem make_okR (file place : Nat) (v : Value) (ps : List UInt8) (w : World) (hv : RB w v ps) (hf : file ≤ 4611686018427387903) (hp : place ≤ 4611686018427387903) (h0 : 0 < ps.length) (h1 : ps.length ≤ 66000) :
    Calls Try.prog 19 #[.int .i64 (file : Int), .int .i64 (place : Int), v] w (MakePost w 0 (frameOf file place ps)) := by
  have HV := Lib.hid hv
  have HF := Lib.hid (placed_yesR file w ⟨by omega, by omega⟩)
  have HP := Lib.hid (placed_yesR place w ⟨by omega, by omega⟩)
  have hlen : ((ps.length : Int) == 0) = false := by simp only [beq_eq_false_iff_ne, ne_eq]; omega
  obtain ⟨a, c, rfl, _⟩ := hv
  go_enter Try.func19, Try.ntmps19
  go_wp2_with (fail)
  refine HF.out.mono ?_
  rintro e w1 ⟨rfl, rfl⟩
  go_wp2_with (fail)
  refine HP.out.mono ?_
  rintro e w1 ⟨rfl, rfl⟩
  clear HF HP
  go_wp2_with (fail)
  refine (low_any ps.length 4 w (by omega) (by decide)).mono ?_
  rintro e w2 ⟨v2, rfl, hv2, hf2, _⟩
  have HV2 := Lib.hid hv2
  have HF2 := Lib.hid hf2
  clear hv2 hf2
  go_wp2_with (fail)
  refine (rsum_any file place _ ps w2 (HV.out.fr HF2.out) hf hp (by omega)).mono ?_
  rintro e w4 ⟨v4, rfl, hv4, hf4, _⟩
  have HF4 := Lib.hid (none_fr HF2.out hf4)
  have HV4 := Lib.hid (hv3_of HV2.out hf4)
  have HL4 := Lib.hid hv4
  clear hv4 hf4
  go_wp2_with (first
    | (at_builtin; refine wpList_append_Own _ rfl _ _ 22 rfl 5 (.int .u8 0) 1 1 Try.underlying22 Try.info5 rfl (by decide) v2 _ _ rfl HV4.out v4 _ _ rfl HL4.out.rb.src (by simp only [le_length]; unfold maxLen; omega) (by simp only [le_length]; omega) ?_; intro v5 w5 hv5 hf5 _ _; have HV5 := Lib.hid (OB.app (G := fun k => w.heap.size ≤ k) hv5 (fun _ h => h) (fun k h => Nat.le_trans HF4.out.size h)); have HF5 := Lib.hid (HF4.out.trans hf5 (fun j hj he => absurd (HV4.out.block j he).1 (by omega))); have HP5 := Lib.hid (HV.out.fr HF5.out); clear hv5 hf5)
    | (at_builtin; refine wpList_append_Own _ rfl _ _ 22 rfl 5 (.int .u8 0) 1 1 Try.underlying22 Try.info5 rfl (by decide) v5 _ _ rfl HV5.out _ _ _ rfl HP5.out.src (by simp only [List.length_append, le_length]; unfold maxLen; omega) (by simp only [List.length_append, le_length]; omega) ?_; intro v6 w6 hv6 hf6 _ _))
  go_ret2
  refine ⟨_, rfl, ?_, HF5.out.trans hf6 (fun j hj he => absurd (HV5.out.block j he).1 (by omega))⟩
  unfold frameOf
  exact OB.app hv6 (fun _ h => h) (fun k h => Nat.le_trans HF5.out.size h)

end Go.Proofs.Ytgobbgklmjnnlaa
