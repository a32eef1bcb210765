/- The reference's Sum, a bit at a time, is the register's. -/
import Derived.Test.YtgobbgklmjnnlaaFrLaid
import Derived.Test.YtgobbgklmjnnlaaCrcB
namespace Go.Sb
/-- a bit -/
def bitS (r : BitVec 32) : BitVec 32 := (r >>> 1) ^^^ (if r.getLsbD 0 then 0xEDB88320#32 else 0#32)
def bitsS : Nat → BitVec 32 → BitVec 32
  | 0, r => r
  | k + 1, r => bitS (bitsS k r)

theorem bitS_xor (a b : BitVec 32) : bitS (a ^^^ b) = bitS a ^^^ bitS b := by
  unfold bitS
  rw [BitVec.ushiftRight_xor_distrib, BitVec.getLsbD_xor]
  cases a.getLsbD 0 <;> cases b.getLsbD 0
  · simp
  · simp; ac_rfl
  · simp; ac_rfl
  · have e : ∀ p x y : BitVec 32, (x ^^^ p) ^^^ (y ^^^ p) = x ^^^ y := fun p x y => by
      rw [BitVec.xor_comm y p, BitVec.xor_assoc, ← BitVec.xor_assoc p p y, BitVec.xor_self, BitVec.zero_xor]
    simp only [if_true, Bool.xor_self, Bool.false_eq_true, if_false, BitVec.xor_zero, e]

theorem bitsS_xor (k : Nat) (a b : BitVec 32) : bitsS k (a ^^^ b) = bitsS k a ^^^ bitsS k b := by
  induction k with
  | zero => rfl
  | succ k ih => simp only [bitsS, ih, bitS_xor]

theorem bitsS_add (j k : Nat) (r : BitVec 32) : bitsS (j + k) r = bitsS j (bitsS k r) := by
  induction j with
  | zero => simp [bitsS]
  | succ j ih => rw [Nat.add_right_comm, bitsS, bitsS, ih]

/-- bits that are zero at the low end are shifted out alone -/
theorem bitS_even (r : BitVec 32) (h : r.getLsbD 0 = false) : bitS r = r >>> 1 := by
  unfold bitS
  rw [h]
  simp

theorem bitsS_high (r : BitVec 32) (k : Nat) : (∀ i, i < k → r.getLsbD i = false) → bitsS k r = r >>> k := by
  induction k with
  | zero => intro _; simp [bitsS]
  | succ k ih =>
    intro h
    rw [bitsS, ih (fun i hi => h i (by omega)), bitS_even _ (by rw [BitVec.getLsbD_ushiftRight]; simpa using h k (by omega)), ← BitVec.shiftRight_add]

theorem nib_low : ∀ i : Nat, i ≤ 15 → bitsS 4 (BitVec.ofNat 32 i) = tabB i := by decide

theorem nib_bits (r : BitVec 32) : nib r = bitsS 4 r := by
  have hs : r = (r &&& (~~~ 15#32)) ^^^ (r &&& 15#32) := by
    apply BitVec.eq_of_getLsbD_eq
    intro i hi
    rw [BitVec.getLsbD_xor, BitVec.getLsbD_and, BitVec.getLsbD_and, BitVec.getLsbD_not]
    simp only [hi, decide_true, Bool.true_and]
    cases r.getLsbD i <;> cases (15#32).getLsbD i <;> rfl
  have h1 : bitsS 4 (r &&& (~~~ 15#32)) = r >>> 4 := by
    rw [bitsS_high]
    · apply BitVec.eq_of_getLsbD_eq
      intro i hi
      rw [BitVec.getLsbD_ushiftRight, BitVec.getLsbD_ushiftRight, BitVec.getLsbD_and]
      have : ∀ j, j < 28 → (~~~ 15#32).getLsbD (4 + j) = true := by decide
      by_cases h28 : i < 28
      · rw [this i h28]; simp
      · rw [BitVec.getLsbD_of_ge r _ (by omega)]; simp
    · intro i hi
      rw [BitVec.getLsbD_and]
      have : ∀ j, j < 4 → (~~~ 15#32).getLsbD j = false := by decide
      rw [this i hi]; simp
  have h2 : bitsS 4 (r &&& 15#32) = tabB (r &&& 15#32).toNat := by
    have hle := and15_le r
    have e : r &&& 15#32 = BitVec.ofNat 32 (r &&& 15#32).toNat := by
      apply BitVec.eq_of_toNat_eq
      rw [BitVec.toNat_ofNat]
      omega
    rw [← nib_low _ hle, ← e]
  conv => rhs; rw [hs]
  rw [bitsS_xor, h1, h2]
  rfl

theorem step_bits (r : BitVec 32) (c : UInt8) : stepB r c = bitsS 8 (inB r c) := by
  unfold stepB
  rw [nib_bits, nib_bits, ← bitsS_add]
end Go.Sb

namespace Go.Sb
open Go.RowKit
theorem bits_xor64 (a b : BitVec 32) : bits .xor .i64 (a.toNat : Int) (b.toNat : Int) = ((a ^^^ b).toNat : Int) := by
  have ha := a.isLt
  have hb := b.isLt
  have hx := (a ^^^ b).isLt
  have e1 : (BitVec.ofInt 64 (a.toNat : Int)).toNat = a.toNat := by simp; omega
  have e2 : (BitVec.ofInt 64 (b.toNat : Int)).toNat = b.toNat := by simp; omega
  show IntKind.i64.wrap (((BitVec.ofInt 64 (a.toNat : Int)) ^^^ (BitVec.ofInt 64 (b.toNat : Int))).toNat : Int) = _
  rw [BitVec.toNat_xor, e1, e2, ← BitVec.toNat_xor, IntKind.wrap_i64]
  omega
theorem bits_xor64_byte (a : BitVec 32) (c : UInt8) : bits .xor .i64 (a.toNat : Int) (c.toNat : Int) = ((inB a c).toNat : Int) := by
  have h := bits_xor64 a (BitVec.ofNat 32 c.toNat)
  have e : (BitVec.ofNat 32 c.toNat).toNat = c.toNat := by
    have := c.toNat_lt
    simp
  rw [e] at h
  exact h
theorem and1_64 (a : BitVec 32) : bits .and .i64 (a.toNat : Int) 1 = ((if a.getLsbD 0 then 1 else 0 : Nat) : Int) := by
  have hb := a.isLt
  have h := bits_mask .i64 63 (by decide) (fun n h0 h1 => by rw [IntKind.wrap_i64]; omega) 1 (by decide) (a.toNat : Int) (by omega) (by omega)
  have e : (2 : Int) ^ 1 - 1 = 1 := by decide
  rw [e] at h
  rw [h, BitVec.getLsbD, Nat.testBit_zero]
  by_cases hm : a.toNat % 2 = 1
  · simp [hm]; omega
  · have : a.toNat % 2 = 0 := by omega
    simp [this]; omega
theorem shr1_64 (a : BitVec 32) : (a.toNat : Int) / 2 = ((a >>> 1).toNat : Int) := by
  rw [BitVec.toNat_ushiftRight, Nat.shiftRight_eq_div_pow]
  omega

/-- A bit's step: what the reference reckons; the register's numbers by names. -/
theorem bit_facts (a : BitVec 32) : ∃ q h : Nat, q ≤ 4294967295 ∧ h ≤ 4294967295 ∧ (a.toNat : Int) / 2 = (h : Int) ∧ q = (bitS a).toNat ∧
    ((bits .and .i64 (a.toNat : Int) 1 = 1 ∧ bits .xor .i64 (h : Int) 3988292384 = (q : Int)) ∨ (bits .and .i64 (a.toNat : Int) 1 = 0 ∧ q = h)) := by
  have h1 := (bitS a).isLt
  have h2 := (a >>> 1).isLt
  refine ⟨(bitS a).toNat, (a >>> 1).toNat, by omega, by omega, shr1_64 a, rfl, ?_⟩
  have h3 := and1_64 a
  unfold bitS
  cases hl : a.getLsbD 0
  · rw [hl] at h3
    exact .inr ⟨h3, by simp⟩
  · rw [hl] at h3
    refine .inl ⟨h3, ?_⟩
    exact bits_xor64 (a >>> 1) 0xEDB88320#32

def refS (r : BitVec 32) (xs : List UInt8) : BitVec 32 := xs.foldl (fun r c => bitsS 8 (inB r c)) r
theorem refS_eq (r : BitVec 32) (xs : List UInt8) : refS r xs = overB r xs := by
  unfold refS overB
  congr 1
  funext r c
  rw [step_bits]
end Go.Sb

namespace Go.Proofs.Ytgobbgklmjnnlaa
open Go.RowKit Go.Sb

def RefRel (xs : List UInt8) (r i : Value) : Prop := ∃ k : Nat, k ≤ xs.length ∧ i = .int .i64 (k : Int) ∧ r = .int .i64 ((overB (BitVec.allOnes 32) (xs.take k)).toNat : Int)
def RefIn (r0 : BitVec 32) (r i : Value) : Prop := ∃ k : Nat, k ≤ 8 ∧ i = .int .i64 (k : Int) ∧ r = .int .i64 ((bitsS k r0).toNat : Int)

set_option maxRecDepth 100000 in
set_option maxHeartbeats 1000000 in
theorem refsum_some (b o c : Nat) (xs : List UInt8) (w : World) (hm : xs.length ≤ 9223372036854775807) (hc : ∀ i (h : i < xs.length), w.cell? ⟨b, o + i, none⟩ = some (byte xs[i])) :
    Calls Try.prog 15 #[.slice (some ⟨b, o, none⟩) xs.length c] w fun e w' => e = .returned (.int .i64 ((crcB xs).toNat : Int)) ∧ w = w' := by
  have HC := Lib.hid hc
  clear hc
  go_enter Try.func15, Try.ntmps15
  go_wp2_with (fail)
  go_loop [3, 4] (fun r i => RefRel xs r i) (fun _ i => xs.length - (intOf i).toNat)
  case atStart => exact ⟨0, by omega, rfl, rfl⟩
  case round =>
    obtain ⟨k, hk, rfl, rfl⟩ := hrel
    by_cases hlt : k < xs.length
    · have hx := HC.out k hlt
      have hn : overB (BitVec.allOnes 32) (xs.take (k + 1)) = stepB (overB (BitVec.allOnes 32) (xs.take k)) xs[k] := by rw [take_snoc xs k hlt, overB_snoc]
      have HN := Lib.hid hn
      clear hn
      generalize overB (BitVec.allOnes 32) (xs.take k) = r at *
      have hb := xs[k].toNat_lt
      generalize xs[k] = c at *
      unfold byte at hx
      have h1 := bits_xor64_byte r c
      obtain ⟨r0, hr0⟩ : ∃ r0, r0 = inB r c := ⟨_, rfl⟩
      rw [← hr0] at h1
      have HN2 := Lib.hid (show overB (BitVec.allOnes 32) (xs.take (k + 1)) = bitsS 8 r0 by rw [HN.out, step_bits, hr0])
      clear hr0
      go_wp2_with (fail)
      go_loop [3, 5] (fun r i => RefIn r0 r i) (fun _ i => 8 - (intOf i).toNat)
      case atStart => exact ⟨0, by omega, rfl, rfl⟩
      case round =>
        obtain ⟨j, hj, rfl, rfl⟩ := hrel
        by_cases hj8 : j < 8
        · have hs : bitsS (j + 1) r0 = bitS (bitsS j r0) := rfl
          have HS := Lib.hid hs
          clear hs h1 hx
          generalize bitsS j r0 = a at *
          obtain ⟨q, h, hq, hh, g1, g2, g3⟩ := bit_facts a
          have HQ := Lib.hid (show (bitsS (j + 1) r0).toNat = q by rw [HS.out, g2])
          clear g2
          rcases g3 with ⟨g3, g4⟩ | ⟨g3, rfl⟩
          all_goals
            go_wp2_with (fail)
            go_round
            case rel => exact ⟨j + 1, hj8, rfl, by rw [HQ.out]⟩
            case measure => simp [intOf]; omega
        · have hj8' : j = 8 := by omega
          subst hj8'
          clear h1 hx
          go_wp2_with (fail)
          go_round
          case rel => exact ⟨k + 1, hlt, rfl, by rw [HN2.out]⟩
          case measure => simp [intOf]; omega
    · have hkn : k = xs.length := by omega
      subst hkn
      have hc : crcB xs = ~~~ overB (BitVec.allOnes 32) (xs.take xs.length) := by rw [List.take_length]; rfl
      have HCB := Lib.hid hc
      clear hc
      generalize overB (BitVec.allOnes 32) (xs.take xs.length) = r at *
      have hnot : bits .xor .i64 (r.toNat : Int) 4294967295 = ((~~~ r).toNat : Int) := by
        have := bits_xor64 r (BitVec.allOnes 32)
        rw [BitVec.xor_allOnes] at this
        exact this
      rw [← HCB.out] at hnot
      obtain ⟨r2, hr2⟩ : ∃ r2, crcB xs = r2 := ⟨_, rfl⟩
      rw [hr2] at hnot
      have HR := Lib.hid hr2
      clear hr2
      go_wp2_with (fail)
      go_ret
      exact ⟨by rw [HR.out]; rfl, rfl⟩

theorem refsum_none (a : Option Addr) (c : Nat) (w : World) : Calls Try.prog 15 #[.slice a 0 c] w fun e w' => e = .returned (.int .i64 0) ∧ w = w' := by
  have hz : bits .xor .i64 4294967295 4294967295 = 0 := by decide +kernel
  go_enter Try.func15, Try.ntmps15
  go_wp2_with (fail)
  refine wp_loop_rounds 1 ?_
  rw [rounds_succ]
  go_wp2_with (fail)
  go_ret
  exact ⟨rfl, rfl⟩

theorem refsum_any (v : Value) (xs : List UInt8) (w : World) (hv : RB w v xs) :
    Calls Try.prog 15 #[v] w fun e w' => e = .returned (.int .i64 ((crcB xs).toNat : Int)) ∧ w = w' := by
  have hl := hv.len
  rcases hv.open' with ⟨a, c, rfl, rfl⟩ | ⟨b, o, c, rfl, _, _, _, hc⟩
  · have h0 : ((crcB []).toNat : Int) = 0 := by decide
    rw [h0]
    exact refsum_none a c w
  · exact refsum_some b o c xs w hl hc

end Go.Proofs.Ytgobbgklmjnnlaa
