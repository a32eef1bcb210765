/- What a frame's bytes read as: plain laws. -/
import Derived.Test.YtgobbgklmjnnlaaFrMakes0
namespace Go.Proofs.Ytgobbgklmjnnlaa
open Go.RowKit Go.Sb

theorem le_app_take (n : Nat) (rest : List UInt8) : (le n 4 ++ rest).take 4 = le n 4 := by
  rw [List.take_append_of_le_length (by rw [le_length]; omega), List.take_of_length_le (by rw [le_length]; omega)]

theorem le_app_drop (n : Nat) (rest : List UInt8) : (le n 4 ++ rest).drop 4 = rest := by
  rw [List.drop_append, List.drop_of_length_le (by rw [le_length]; omega), le_length]
  simp

theorem frame_len (f p : Nat) (ps : List UInt8) : (frameOf f p ps).length = 8 + ps.length := by
  unfold frameOf
  simp [le_length]
  omega

/-- any four bytes of a length, four of a sum, and what follows -/
def made (n s : Nat) (ps : List UInt8) : List UInt8 := le n 4 ++ le s 4 ++ ps

theorem made_len (n s : Nat) (ps : List UInt8) : (made n s ps).length = 8 + ps.length := by
  unfold made
  simp [le_length]
  omega

theorem lenOf_made {n s : Nat} {ps : List UInt8} (h : n < 4294967296) : lenOf (made n s ps) = n := by
  unfold lenOf made
  rw [List.append_assoc, le_app_take]
  exact unle_le n 4 h

theorem markOf_made {n s : Nat} {ps : List UInt8} (h : s < 4294967296) : markOf (made n s ps) = s := by
  unfold markOf made
  rw [List.append_assoc, le_app_drop, le_app_take]
  exact unle_le s 4 h

theorem payOf_made {n s : Nat} {ps : List UInt8} (h : n < 4294967296) : payOf (made n s ps) = ps.take n := by
  unfold payOf
  rw [lenOf_made h]
  unfold made
  rw [show (8 : Nat) = 4 + 4 from rfl, ← List.drop_drop, List.append_assoc, le_app_drop, le_app_drop]

theorem sum_lt (f p : Nat) (ps : List UInt8) : (sumOf f p ps).toNat < 4294967296 := (sumOf f p ps).isLt

theorem frame_made (f p : Nat) (ps : List UInt8) : frameOf f p ps = made ps.length (sumOf f p ps).toNat ps := rfl
theorem made_app (n s : Nat) (ps bh : List UInt8) : made n s ps ++ bh = made n s (ps ++ bh) := by
  unfold made
  rw [List.append_assoc]

/-- what a frame answers at its place, whatever stands behind it -/
theorem errOf_frame {file place : Int} {f p : Nat} (hf : Placed file) (hp : Placed place) (hfe : file.toNat = f) (hpe : place.toNat = p) {ps bh : List UInt8} {n s : Nat} (hn : n = ps.length) (h0 : 0 < ps.length) (h1 : ps.length ≤ 66000) (hs : s < 4294967296) :
    errOf file place (made n s (ps ++ bh)) = (if s = (sumOf f p ps).toNat then 0 else 23) ∧ payOf (made n s (ps ++ bh)) = ps ∧ lenOf (made n s (ps ++ bh)) = ps.length := by
  subst hn
  have hl : lenOf (made ps.length s (ps ++ bh)) = ps.length := lenOf_made (by omega)
  have hpay : payOf (made ps.length s (ps ++ bh)) = ps := by rw [payOf_made (by omega), List.take_left]
  refine ⟨?_, hpay, hl⟩
  have hok : SumOk file.toNat place.toNat (made ps.length s (ps ++ bh)) ↔ s = (sumOf f p ps).toNat := by
    unfold SumOk
    rw [markOf_made hs, hpay, hfe, hpe]
  unfold errOf
  rw [if_neg (fun h => h ⟨hf, hp⟩), made_len, if_neg (by omega), if_neg (by omega), hl, if_neg (by omega), if_neg (by simp)]
  by_cases h : s = (sumOf f p ps).toNat
  · rw [if_pos (hok.2 h), if_pos h]
  · rw [if_neg (fun h' => h (hok.1 h')), if_neg h]

theorem take_frame {file place : Int} {f p : Nat} (hf : Placed file) (hp : Placed place) (hfe : file.toNat = f) (hpe : place.toNat = p) {ps : List UInt8} (bh : List UInt8) (h0 : 0 < ps.length) (h1 : ps.length ≤ 66000) :
    errOf file place (frameOf f p ps ++ bh) = 0 ∧ manyOf file place (frameOf f p ps ++ bh) = ((8 + ps.length : Nat) : Int) ∧ restOf file place (frameOf f p ps ++ bh) = ps := by
  rw [frame_made, made_app]
  obtain ⟨he, hpay, hl⟩ := errOf_frame hf hp hfe hpe (ps := ps) (bh := bh) rfl h0 h1 (sum_lt f p ps)
  rw [if_pos rfl] at he
  refine ⟨he, ?_, ?_⟩
  · unfold manyOf
    rw [if_pos he, hl]
  · unfold restOf
    rw [if_pos he, hpay]

theorem take_cut {file place : Int} {f p : Nat} (hf : Placed file) (hp : Placed place) {ps : List UInt8} (h0 : 0 < ps.length) (h1 : ps.length ≤ 66000) {c : Nat} (hc : 0 < c) (hc2 : c < 8 + ps.length) :
    errOf file place ((frameOf f p ps).take c) = 21 := by
  have hlen : ((frameOf f p ps).take c).length = c := by rw [List.length_take, frame_len]; omega
  unfold errOf
  rw [if_neg (fun h => h ⟨hf, hp⟩), hlen, if_neg (by omega)]
  by_cases h4 : c < 4
  · rw [if_pos h4]
  · rw [if_neg h4]
    have hl : lenOf ((frameOf f p ps).take c) = ps.length := by
      unfold lenOf
      rw [List.take_take, Nat.min_eq_left (by omega)]
      exact lenOf_made (n := ps.length) (by omega)
    rw [hl, if_neg (by omega), if_pos hc2]



end Go.Proofs.Ytgobbgklmjnnlaa
