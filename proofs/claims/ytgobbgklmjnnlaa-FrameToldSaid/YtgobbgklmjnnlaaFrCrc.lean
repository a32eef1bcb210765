/- Turned bits are told: the register is linear, and no step of it forgets. -/
import Derived.Test.YtgobbgklmjnnlaaFrRef
import Derived.Test.YtgobbgklmjnnlaaFrMake
namespace Go.Sb

def bit1 (b : Bool) : BitVec 32 := if b then 1#32 else 0#32
def bitsF (r : BitVec 32) : List Bool → BitVec 32
  | [] => r
  | b :: l => bitsF (bitS (r ^^^ bit1 b)) l
def word : List Bool → BitVec 32
  | [] => 0#32
  | b :: l => bit1 b ^^^ (word l <<< 1)
def bitsOf (c : UInt8) : List Bool := (List.range 8).map (fun i => c.toNat.testBit i)
def streamOf (xs : List UInt8) : List Bool := xs.flatMap bitsOf

theorem word_hi : ∀ (l : List Bool) (i : Nat), l.length ≤ i → (word l).getLsbD i = false
  | [], i, _ => by simp [word]
  | b :: l, i, h => by
    simp only [List.length_cons] at h
    have h1 := word_hi l (i - 1) (by omega)
    have hb : (bit1 b).getLsbD i = false := by
      have hi : i ≠ 0 := by omega
      cases b <;> simp [bit1, BitVec.getLsbD_one, hi]
    simp only [word, BitVec.getLsbD_xor, BitVec.getLsbD_shiftLeft, hb, h1]
    simp

theorem word_lo : ∀ (l : List Bool) (i : Nat) (h : i < l.length), i < 32 → (word l).getLsbD i = l[i]
  | [], i, h, _ => by simp at h
  | b :: l, 0, h, _ => by
    simp only [word, BitVec.getLsbD_xor, BitVec.getLsbD_shiftLeft]
    cases b <;> simp [bit1]
  | b :: l, i + 1, h, h32 => by
    have h1 := word_lo l i (by simpa using h) (by omega)
    have hb : (bit1 b).getLsbD (i + 1) = false := by cases b <;> simp [bit1, BitVec.getLsbD_one]
    simp only [word, BitVec.getLsbD_xor, BitVec.getLsbD_shiftLeft, hb]
    simp [h1, h32]

theorem bitS_shl (x : BitVec 32) (h : x.getLsbD 31 = false) : bitS (x <<< 1) = x := by
  rw [bitS_even _ (by simp)]
  apply BitVec.eq_of_getLsbD_eq
  intro i hi
  simp only [BitVec.getLsbD_ushiftRight, BitVec.getLsbD_shiftLeft]
  by_cases h31 : i = 31
  · subst h31
    simp
    rw [← BitVec.getLsbD_eq_getElem]
    exact h
  · have : 1 + i < 32 := by omega
    simp [this]

theorem bitsF_word : ∀ (l : List Bool) (r : BitVec 32), l.length ≤ 32 → bitsF r l = bitsS l.length (r ^^^ word l)
  | [], r, _ => by simp [bitsF, bitsS, word]
  | b :: l, r, h => by
    simp only [List.length_cons] at h
    rw [bitsF, bitsF_word l _ (by omega), List.length_cons, bitsS_add]
    congr 1
    show _ = bitS (r ^^^ (bit1 b ^^^ word l <<< 1))
    rw [← BitVec.xor_assoc, bitS_xor (r ^^^ bit1 b), bitS_shl _ (word_hi l 31 (by omega))]

theorem bitsF_app : ∀ (l m : List Bool) (r : BitVec 32), bitsF r (l ++ m) = bitsF (bitsF r l) m
  | [], _, _ => rfl
  | b :: l, m, r => by simp only [List.cons_append, bitsF]; exact bitsF_app l m _

theorem word_byte (c : UInt8) : word (bitsOf c) = BitVec.ofNat 32 c.toNat := by
  have h : ∀ c : BitVec 8, word (bitsOf (UInt8.ofBitVec c)) = BitVec.ofNat 32 (UInt8.ofBitVec c).toNat := by decide +kernel
  exact h c.toBitVec

theorem stepB_bits (r : BitVec 32) (c : UInt8) : stepB r c = bitsF r (bitsOf c) := by
  rw [step_bits, bitsF_word _ _ (by simp [bitsOf]), word_byte]
  simp [bitsOf, inB]

theorem overB_bits : ∀ (xs : List UInt8) (r : BitVec 32), overB r xs = bitsF r (streamOf xs)
  | [], r => rfl
  | c :: xs, r => by
    have h := overB_bits xs (stepB r c)
    unfold overB at h ⊢
    rw [List.foldl_cons, h, stepB_bits, streamOf, streamOf, List.flatMap_cons, bitsF_app]

theorem bit1_xor (a b : Bool) : bit1 a ^^^ bit1 b = bit1 (a ^^ b) := by cases a <;> cases b <;> simp [bit1]

theorem xor4 (a b c d : BitVec 32) : (a ^^^ b) ^^^ (c ^^^ d) = (a ^^^ c) ^^^ (b ^^^ d) := by ac_rfl

theorem bitsF_xor : ∀ (l m : List Bool) (a b : BitVec 32), l.length = m.length → bitsF a l ^^^ bitsF b m = bitsF (a ^^^ b) (List.zipWith (· ^^ ·) l m)
  | [], [], a, b, _ => rfl
  | x :: l, y :: m, a, b, h => by
    simp only [List.length_cons, Nat.add_right_cancel_iff] at h
    simp only [bitsF, List.zipWith_cons_cons]
    rw [bitsF_xor l m _ _ h, ← bitS_xor, xor4, bit1_xor]
  | [], _ :: _, _, _, h => by simp at h
  | _ :: _, [], _, _, h => by simp at h

theorem bitS_zero (x : BitVec 32) (h : bitS x = 0#32) : x = 0#32 := by
  have htop : (bitS x).getLsbD 31 = x.getLsbD 0 := by
    unfold bitS
    rw [BitVec.getLsbD_xor, BitVec.getLsbD_ushiftRight, BitVec.getLsbD_of_ge x (1 + 31) (by omega)]
    cases x.getLsbD 0 <;> decide
  rw [h] at htop
  have h0 : x.getLsbD 0 = false := by rw [← htop]; decide
  rw [bitS_even _ h0] at h
  apply BitVec.eq_of_getLsbD_eq
  intro i hi
  match i with
  | 0 => rw [h0]; simp
  | i + 1 =>
    have h2 : (x >>> 1).getLsbD i = (0#32).getLsbD i := by rw [h]
    rw [BitVec.getLsbD_ushiftRight, Nat.add_comm] at h2
    rw [h2]
    simp

theorem bitsS_zero : ∀ (k : Nat) (x : BitVec 32), bitsS k x = 0#32 → x = 0#32
  | 0, _, h => h
  | k + 1, x, h => bitsS_zero k x (bitS_zero _ h)

theorem bitsF_false : ∀ (l : List Bool) (r : BitVec 32), (∀ b ∈ l, b = false) → bitsF r l = bitsS l.length r
  | [], _, _ => rfl
  | b :: l, r, h => by
    have hb : b = false := h b (by simp)
    subst hb
    rw [bitsF, bitsF_false l _ (fun b hb => h b (by simp [hb])), List.length_cons, bitsS_add]
    simp [bit1, bitsS]

theorem bitsS_at0 : ∀ k : Nat, bitsS k 0#32 = 0#32
  | 0 => rfl
  | k + 1 => by rw [bitsS, bitsS_at0 k]; decide

/-- A BURST of at most 32 bits does not come to nothing. -/
theorem burst (D : List Bool) (F : Nat) (h1 : ∃ i : Nat, D[i]? = some true) (h2 : ∀ i : Nat, D[i]? = some true → F ≤ i ∧ i < F + 32) : bitsF 0#32 D ≠ 0#32 := by
  intro h
  have hD : D = D.take F ++ ((D.drop F).take 32 ++ (D.drop F).drop 32) := by rw [List.take_append_drop, List.take_append_drop]
  have hA : ∀ b ∈ D.take F, b = false := by
    intro b hb
    obtain ⟨i, hi, rfl⟩ := List.getElem_of_mem hb
    rw [List.length_take] at hi
    rw [List.getElem_take]
    cases hx : D[i]'(by omega) with
    | false => rfl
    | true =>
      have := (h2 i (by rw [List.getElem?_eq_getElem (by omega), hx])).1
      omega
  have hZ : ∀ b ∈ (D.drop F).drop 32, b = false := by
    intro b hb
    obtain ⟨i, hi, rfl⟩ := List.getElem_of_mem hb
    simp only [List.length_drop] at hi
    rw [List.getElem_drop, List.getElem_drop]
    cases hx : D[F + (32 + i)]'(by omega) with
    | false => rfl
    | true =>
      have := (h2 (F + (32 + i)) (by rw [List.getElem?_eq_getElem (by omega), hx])).2
      omega
  rw [hD, bitsF_app, bitsF_app, bitsF_false _ _ hA, bitsS_at0, bitsF_false _ _ hZ] at h
  have h3 := bitsS_zero _ _ h
  rw [bitsF_word _ _ (by simp; omega)] at h3
  have h4 := bitsS_zero _ _ h3
  rw [BitVec.zero_xor] at h4
  obtain ⟨i, hi⟩ := h1
  obtain ⟨ha, hb⟩ := h2 i hi
  have hlt := (List.getElem?_eq_some_iff.1 hi).1
  have h5 := word_lo ((D.drop F).take 32) (i - F) (by simp; omega) (by omega)
  rw [h4, List.getElem_take, List.getElem_drop] at h5
  have h6 : D[F + (i - F)]'(by omega) = true := by
    have e : F + (i - F) = i := by omega
    have := (List.getElem?_eq_some_iff.1 hi).2
    simp only [e, this]
  rw [h6] at h5
  simp at h5

def bitAt (xs : List UInt8) (i : Nat) : Bool := (xs.getD (i / 8) 0).toNat.testBit (i % 8)

theorem stream_len : ∀ xs : List UInt8, (streamOf xs).length = 8 * xs.length
  | [] => rfl
  | c :: xs => by
    have := stream_len xs
    unfold streamOf at this ⊢
    rw [List.flatMap_cons, List.length_append, this, List.length_cons]
    simp [bitsOf]
    omega

theorem stream_get : ∀ (xs : List UInt8) (i : Nat), i < 8 * xs.length → (streamOf xs)[i]? = some (bitAt xs i)
  | [], i, h => by simp at h
  | c :: xs, i, h => by
    unfold streamOf
    rw [List.flatMap_cons]
    have hl : (bitsOf c).length = 8 := by simp [bitsOf]
    by_cases hi : i < 8
    · rw [List.getElem?_append_left (by omega)]
      have e1 : i / 8 = 0 := by omega
      have e2 : i % 8 = i := by omega
      simp [bitAt, bitsOf, e1, e2, hi]
    · rw [List.getElem?_append_right (by omega), hl]
      have := stream_get xs (i - 8) (by simp at h; omega)
      unfold streamOf at this
      rw [this]
      have e1 : i / 8 = (i - 8) / 8 + 1 := by omega
      have e2 : i % 8 = (i - 8) % 8 := by omega
      simp [bitAt, e1, e2]

/-- two lists of bytes that differ in a burst of at most 32 bits -/
theorem overB_ne (xs ys : List UInt8) (r : BitVec 32) (F : Nat) (hl : xs.length = ys.length) (h1 : ∃ i, i < 8 * xs.length ∧ bitAt xs i ≠ bitAt ys i) (h2 : ∀ i, i < 8 * xs.length → bitAt xs i ≠ bitAt ys i → F ≤ i ∧ i < F + 32) :
    overB r xs ≠ overB r ys := by
  intro h
  have hz : overB r xs ^^^ overB r ys = 0#32 := by rw [h, BitVec.xor_self]
  rw [overB_bits, overB_bits, bitsF_xor _ _ _ _ (by rw [stream_len, stream_len, hl]), BitVec.xor_self] at hz
  have hg : ∀ i, i < 8 * xs.length → (List.zipWith (· ^^ ·) (streamOf xs) (streamOf ys))[i]? = some (bitAt xs i ^^ bitAt ys i) := fun i hi => by
    rw [List.getElem?_zipWith, stream_get xs i hi, stream_get ys i (by omega)]
  refine burst _ F ?_ ?_ hz
  · obtain ⟨i, hi, hne⟩ := h1
    refine ⟨i, ?_⟩
    rw [hg i hi]
    cases hx : bitAt xs i <;> cases hy : bitAt ys i <;> simp_all
  · intro i hi
    have hlt : i < 8 * xs.length := by
      have := (List.getElem?_eq_some_iff.1 hi).1
      rw [List.length_zipWith, stream_len, stream_len] at this
      omega
    refine h2 i hlt ?_
    rw [hg i hlt] at hi
    intro h
    rw [h] at hi
    simp at hi

/-- no step forgets -/
theorem overB_inj (a b : BitVec 32) (t : List UInt8) (h : overB a t = overB b t) : a = b := by
  have hz : overB a t ^^^ overB b t = 0#32 := by rw [h, BitVec.xor_self]
  rw [overB_bits, overB_bits, bitsF_xor _ _ _ _ rfl, bitsF_false] at hz
  · have := bitsS_zero _ _ hz
    exact BitVec.xor_eq_zero_iff.1 this
  · intro x hx
    rw [List.zipWith_self] at hx
    obtain ⟨y, _, rfl⟩ := List.mem_map.1 hx
    simp

theorem overB_app2 (r : BitVec 32) (xs ys : List UInt8) : overB r (xs ++ ys) = overB (overB r xs) ys := by
  unfold overB
  rw [List.foldl_append]

/-- bytes that differ differ in a bit -/
theorem bit_of_ne (xs ys : List UInt8) (hl : xs.length = ys.length) (h : xs ≠ ys) : ∃ i, i < 8 * xs.length ∧ bitAt xs i ≠ bitAt ys i := by
  apply Classical.byContradiction
  intro hn
  apply h
  apply List.ext_getElem hl
  intro j h1 h2
  have hb : ∀ t, t < 8 → xs[j].toNat.testBit t = ys[j].toNat.testBit t := by
    intro t ht
    apply Classical.byContradiction
    intro hne
    apply hn
    refine ⟨8 * j + t, by omega, ?_⟩
    have e1 : (8 * j + t) / 8 = j := by omega
    have e2 : (8 * j + t) % 8 = t := by omega
    simp only [bitAt, e1, e2, List.getD_eq_getElem?_getD, List.getElem?_eq_getElem h1, List.getElem?_eq_getElem h2, Option.getD_some]
    exact hne
  apply UInt8.toNat_inj.1
  apply Nat.eq_of_testBit_eq
  intro t
  by_cases ht : t < 8
  · exact hb t ht
  · have big : ∀ c : UInt8, c.toNat.testBit t = false := fun c => Nat.testBit_lt_two_pow (Nat.lt_of_lt_of_le c.toNat_lt (by
      have : 2 ^ 8 ≤ 2 ^ t := Nat.pow_le_pow_right (by omega) (by omega)
      exact this))
    rw [big, big]

end Go.Sb
