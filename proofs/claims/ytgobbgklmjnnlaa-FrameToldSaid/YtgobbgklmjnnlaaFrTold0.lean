/- Turned bits of a frame are told: the plain law. -/
import Derived.Test.YtgobbgklmjnnlaaFrElse
namespace Go.Proofs.Ytgobbgklmjnnlaa
open Go.RowKit Go.Sb

def flip (bits F B j : Nat) : Bool := decide (F + j < bits) && B.testBit j
def turned (first bits F B k i : Nat) : Bool := decide (8 * first + F ≤ i ∧ i < 8 * first + F + k) && flip bits F B (i - (8 * first + F))
def anyFlip (bits F B k : Nat) : Bool := (List.range k).any (flip bits F B)

theorem anyFlip_succ (bits F B k : Nat) : anyFlip bits F B (k + 1) = (anyFlip bits F B k || flip bits F B k) := by
  unfold anyFlip
  rw [List.range_succ, List.any_append]
  simp

theorem turned_succ (first bits F B k i : Nat) : turned first bits F B (k + 1) i = (turned first bits F B k i ^^ (decide (i = 8 * first + F + k) && flip bits F B k)) := by
  unfold turned
  by_cases h : i = 8 * first + F + k
  · subst h
    have e : 8 * first + F + k - (8 * first + F) = k := by omega
    rw [e]
    have h1 : decide (8 * first + F ≤ 8 * first + F + k ∧ 8 * first + F + k < 8 * first + F + (k + 1)) = true := by simp
    have h2 : decide (8 * first + F ≤ 8 * first + F + k ∧ 8 * first + F + k < 8 * first + F + k) = false := by simp
    rw [h1, h2]
    simp
  · have h1 : decide (8 * first + F ≤ i ∧ i < 8 * first + F + (k + 1)) = decide (8 * first + F ≤ i ∧ i < 8 * first + F + k) := by
      apply decide_eq_decide.2
      omega
    rw [h1]
    simp [h]

theorem bitAt_drop (xs : List UInt8) (a i : Nat) : bitAt (xs.drop a) i = bitAt xs (i + 8 * a) := by
  unfold bitAt
  have e1 : (i + 8 * a) / 8 = a + i / 8 := by omega
  have e2 : (i + 8 * a) % 8 = i % 8 := by omega
  rw [e1, e2, List.getD_eq_getElem?_getD, List.getD_eq_getElem?_getD, List.getElem?_drop]

theorem bitAt_take (xs : List UInt8) (a i : Nat) (h : i < 8 * a) : bitAt (xs.take a) i = bitAt xs i := by
  unfold bitAt
  rw [List.getD_eq_getElem?_getD, List.getD_eq_getElem?_getD, List.getElem?_take, if_pos (by omega)]

theorem eq_of_bits (xs ys : List UInt8) (hl : xs.length = ys.length) (h : ∀ i, i < 8 * xs.length → bitAt xs i = bitAt ys i) : xs = ys := by
  apply Classical.byContradiction
  intro hne
  obtain ⟨i, hi, hd⟩ := bit_of_ne xs ys hl hne
  exact hd (h i hi)

theorem made_of (zs : List UInt8) (n : Nat) (hl : zs.length = 8 + n) (h4 : zs.take 4 = le n 4) : zs = made n (markOf zs) (zs.drop 8) := by
  unfold made markOf
  have h := le_unle ((zs.drop 4).take 4)
  have h8 : ((zs.drop 4).take 4).length = 4 := by simp; omega
  rw [h8] at h
  rw [h, ← h4, List.append_assoc]
  have e : zs.drop 8 = (zs.drop 4).drop 4 := by rw [List.drop_drop]
  rw [e, List.take_append_drop, List.take_append_drop]

theorem markOf_lt (zs : List UInt8) (h : 8 ≤ zs.length) : markOf zs < 4294967296 := by
  unfold markOf
  have := unle_lt ((zs.drop 4).take 4)
  have h8 : ((zs.drop 4).take 4).length = 4 := by simp; omega
  rw [h8] at this
  exact this

theorem told {f p : Nat} (hf : f ≤ 4611686018427387903) (hp : p ≤ 4611686018427387903) {ps zs : List UInt8} {first bits F B : Nat} (h0 : 0 < ps.length) (h1 : ps.length ≤ 66000) (hl : zs.length = 8 + ps.length)
    (hc : first = 8 ∧ bits = 8 * ps.length ∨ first = 4 ∧ bits = 32) (hb : ∀ i, i < 8 * (8 + ps.length) → bitAt zs i = (bitAt (frameOf f p ps) i ^^ turned first bits F B 32 i)) :
    (anyFlip bits F B 32 = false → zs = frameOf f p ps) ∧ (anyFlip bits F B 32 = true → errOf (f : Int) (p : Int) zs = 23) := by
  have hfl := frame_len f p ps
  refine ⟨fun hn => ?_, fun hy => ?_⟩
  · apply eq_of_bits _ _ (by omega)
    intro i hi
    rw [hb i (by omega)]
    have : turned first bits F B 32 i = false := by
      unfold turned
      by_cases h : 8 * first + F ≤ i ∧ i < 8 * first + F + 32
      · unfold anyFlip at hn
        rw [List.any_eq_false] at hn
        have := hn (i - (8 * first + F)) (by simp; omega)
        simp only [Bool.not_eq_true] at this
        rw [this]
        simp
      · rw [decide_eq_false h]
        simp
    rw [this]
    simp
  · have h4 : zs.take 4 = le ps.length 4 := by
      have : (frameOf f p ps).take 4 = le ps.length 4 := by
        rw [frame_made]
        unfold made
        rw [List.append_assoc, le_app_take]
      rw [← this]
      apply eq_of_bits _ _ (by simp; omega)
      intro i hi
      rw [List.length_take] at hi
      rw [bitAt_take _ _ _ (by omega), bitAt_take _ _ _ (by omega), hb i (by omega)]
      have : turned first bits F B 32 i = false := by
        unfold turned
        rw [decide_eq_false (by omega)]
        simp
      rw [this]
      simp
    have hz := made_of zs ps.length hl h4
    have hF : Placed (f : Int) := ⟨by omega, by omega⟩
    have hP : Placed (p : Int) := ⟨by omega, by omega⟩
    have hdl : (zs.drop 8).length = ps.length := by rw [List.length_drop]; omega
    have he := (errOf_frame hF hP (f := f) (p := p) (by simp) (by simp) (ps := zs.drop 8) (bh := []) (n := ps.length) hdl.symm (by omega) (by omega) (markOf_lt zs (by omega))).1
    rw [List.append_nil, ← hz] at he
    rw [he, if_neg]
    obtain ⟨j, hj, hfj⟩ : ∃ j, j < 32 ∧ flip bits F B j = true := by
      unfold anyFlip at hy
      rw [List.any_eq_true] at hy
      obtain ⟨j, hj, h⟩ := hy
      exact ⟨j, by simpa using hj, h⟩
    have hjb : F + j < bits := by
      unfold flip at hfj
      simp only [Bool.and_eq_true, decide_eq_true_eq] at hfj
      exact hfj.1
    have htj : turned first bits F B 32 (8 * first + F + j) = true := by
      unfold turned
      have e : 8 * first + F + j - (8 * first + F) = j := by omega
      rw [e, hfj]
      simp
      omega
    rcases hc with ⟨rfl, rfl⟩ | ⟨rfl, rfl⟩
    · -- in the payload
      have hmark : markOf zs = (sumOf f p ps).toNat := by
        have h5 : markOf (frameOf f p ps) = (sumOf f p ps).toNat := by rw [frame_made]; exact markOf_made (sum_lt f p ps)
        rw [← h5]
        unfold markOf
        congr 1
        apply eq_of_bits _ _ (by simp; omega)
        intro i hi
        rw [List.length_take, List.length_drop] at hi
        rw [bitAt_take _ _ _ (by omega), bitAt_take _ _ _ (by omega), bitAt_drop, bitAt_drop, hb _ (by omega)]
        have : turned 8 (8 * ps.length) F B 32 (i + 8 * 4) = false := by
          unfold turned
          rw [decide_eq_false (by omega)]
          simp
        rw [this]
        simp
      rw [hmark]
      intro hs
      have hs := BitVec.eq_of_toNat_eq hs
      unfold sumOf crcB at hs
      have hs1 : overB (BitVec.allOnes 32) (le f 8 ++ le p 8 ++ ps) = overB (BitVec.allOnes 32) (le f 8 ++ le p 8 ++ zs.drop 8) := by
        have := congrArg (fun x => ~~~ x) hs
        simpa using this
      rw [overB_app2, overB_app2 _ (le f 8 ++ le p 8) (zs.drop 8)] at hs1
      have hbits : ∀ i, i < 8 * ps.length → bitAt (zs.drop 8) i = (bitAt ps i ^^ turned 8 (8 * ps.length) F B 32 (i + 64)) := by
        intro i hi
        rw [bitAt_drop, hb _ (by omega)]
        have hd : (frameOf f p ps).drop 8 = ps := by
          unfold frameOf
          rw [show (8 : Nat) = 4 + 4 from rfl, ← List.drop_drop, List.append_assoc, le_app_drop, le_app_drop]
        have := bitAt_drop (frameOf f p ps) 8 i
        rw [hd] at this
        rw [this]
      refine overB_ne ps (zs.drop 8) _ F (by omega) ⟨F + j, hjb, ?_⟩ ?_ hs1
      · rw [hbits _ hjb, show F + j + 64 = 8 * 8 + F + j by omega, htj]
        cases bitAt ps (F + j) <;> simp
      · intro i hi hd
        rw [hbits i hi] at hd
        cases ht : turned 8 (8 * ps.length) F B 32 (i + 64) with
        | false => rw [ht] at hd; simp at hd
        | true =>
          unfold turned at ht
          simp only [Bool.and_eq_true, decide_eq_true_eq] at ht
          omega
    · -- in the sum
      have hpay : zs.drop 8 = ps := by
        have hd : (frameOf f p ps).drop 8 = ps := by
          unfold frameOf
          rw [show (8 : Nat) = 4 + 4 from rfl, ← List.drop_drop, List.append_assoc, le_app_drop, le_app_drop]
        rw [← hd]
        apply eq_of_bits _ _ (by rw [List.length_drop, List.length_drop]; omega)
        intro i hi
        rw [List.length_drop] at hi
        rw [bitAt_drop, bitAt_drop, hb _ (by omega)]
        have : turned 4 32 F B 32 (i + 8 * 8) = false := by
          unfold turned flip
          by_cases h : 8 * 4 + F ≤ i + 8 * 8 ∧ i + 8 * 8 < 8 * 4 + F + 32
          · have h2 : ¬ F + (i + 8 * 8 - (8 * 4 + F)) < 32 := by omega
            rw [decide_eq_false h2]
            simp
          · rw [decide_eq_false h]
            simp
        rw [this]
        simp
      rw [hpay]
      intro hm
      have hzf : zs = frameOf f p ps := by rw [hz, hm, hpay, frame_made]
      have h5 := hb (8 * 4 + F + j) (by omega)
      rw [htj, hzf] at h5
      cases hx : bitAt (frameOf f p ps) (8 * 4 + F + j) <;> rw [hx] at h5 <;> simp at h5

/-- one more bit is turned -/
theorem turn_step {zs fr : List UInt8} {first bits F B k n : Nat} (hl : zs.length = n) (hb : ∀ i, i < 8 * n → bitAt zs i = (bitAt fr i ^^ turned first bits F B k i)) (hfl : flip bits F B k = true) {q t : Nat} (hq : q = (F + k) / 8) (ht : t = (F + k) % 8)
    (hin : first + q < n) (x y : UInt8) (hx : zs[first + q]'(by omega) = x) (hy : y = x ^^^ (1 <<< UInt8.ofNat t)) :
    ∀ i, i < 8 * n → bitAt (zs.set (first + q) y) i = (bitAt fr i ^^ turned first bits F B (k + 1) i) := by
  intro i hi
  rw [turned_succ, hfl]
  have hmask : ∀ s, s < 8 → (1 <<< UInt8.ofNat t : UInt8).toNat.testBit s = decide (s = t) := by
    have h : ∀ t : Fin 8, ∀ s : Fin 8, (1 <<< UInt8.ofNat t.1 : UInt8).toNat.testBit s.1 = decide (s.1 = t.1) := by decide
    intro s hs
    exact h ⟨t, by omega⟩ ⟨s, hs⟩
  by_cases hj : i / 8 = first + q
  · have e1 : bitAt (zs.set (first + q) y) i = y.toNat.testBit (i % 8) := by
      unfold bitAt
      rw [hj, List.getD_eq_getElem?_getD, List.getElem?_set_self (by omega)]
      rfl
    have e2 : bitAt zs i = x.toNat.testBit (i % 8) := by
      unfold bitAt
      rw [hj, List.getD_eq_getElem?_getD, List.getElem?_eq_getElem (by omega), hx]
      rfl
    rw [e1, hy, UInt8.toNat_xor, Nat.testBit_xor, ← e2, hb i hi, hmask _ (Nat.mod_lt _ (by omega))]
    have : decide (i % 8 = t) = decide (i = 8 * first + F + k) := by
      apply decide_eq_decide.2
      omega
    rw [this]
    simp
  · have e1 : bitAt (zs.set (first + q) y) i = bitAt zs i := by
      unfold bitAt
      rw [List.getD_eq_getElem?_getD, List.getElem?_set_ne (fun h => hj h.symm), ← List.getD_eq_getElem?_getD]
    rw [e1, hb i hi]
    have : decide (i = 8 * first + F + k) = false := by
      apply decide_eq_false
      omega
    rw [this]
    simp

theorem turn_stay {zs fr : List UInt8} {first bits F B k n : Nat} (hb : ∀ i, i < 8 * n → bitAt zs i = (bitAt fr i ^^ turned first bits F B k i)) (hfl : flip bits F B k = false) :
    ∀ i, i < 8 * n → bitAt zs i = (bitAt fr i ^^ turned first bits F B (k + 1) i) := by
  intro i hi
  rw [turned_succ, hfl, hb i hi]
  simp

end Go.Proofs.Ytgobbgklmjnnlaa
