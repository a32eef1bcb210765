/- Eight bytes, read as a number. -/
import Derived.Test.YtpecbhimnpjkdaaRcLow
namespace Go.Proofs.Ytpecbhimnpjkdaa
open Go.RowKit Go.Sb

/-- the bytes' number, the lowest first -/
def un : List UInt8 → Nat
  | [] => 0
  | c :: l => c.toNat + 256 * un l

theorem un_lt (l : List UInt8) : un l < 256 ^ l.length := by
  induction l with
  | nil => decide
  | cons c l ih =>
    have := c.toNat_lt
    rw [un, List.length_cons, Nat.pow_succ]
    omega

theorem un_drop {l : List UInt8} {i : Nat} (h : i < l.length) : un (l.drop i) = (l[i]).toNat + 256 * un (l.drop (i + 1)) := by
  rw [List.drop_eq_getElem_cons h, un]

theorem un_le (n k : Nat) (h : n < 256 ^ k) : un (le n k) = n := by
  induction k generalizing n with
  | zero => simp at h; simp [le, un, h]
  | succ k ih =>
    rw [le, un, ih (n / 256) (by rw [Nat.pow_succ] at h; exact Nat.div_lt_of_lt_mul (by omega))]
    have : (UInt8.ofNat n).toNat = n % 256 := UInt8.toNat_ofNat'
    omega

theorem le_un (l : List UInt8) : le (un l) l.length = l := by
  induction l with
  | nil => rfl
  | cons c l ih =>
    have hc := c.toNat_lt
    rw [List.length_cons, le, un]
    have h1 : (c.toNat + 256 * un l) / 256 = un l := by omega
    rw [h1, ih]
    congr 1
    have h2 : UInt8.ofNat (c.toNat + 256 * un l) = UInt8.ofNat c.toNat := by
      apply UInt8.toNat_inj.1
      simp only [UInt8.toNat_ofNat']
      omega
    rw [h2, UInt8.ofNat_toNat]

theorem or_byte (m cb : Nat) (hm : m < 256 ^ 7) (hc : cb < 256) : bits .or .u64 ((m : Int) * 256) (cb : Int) = ((cb + 256 * m : Nat) : Int) := by
  rw [show (m : Int) * 256 = ((m * 256 : Nat) : Int) by omega]
  have h : bits .or .u64 ((m * 256 : Nat) : Int) (cb : Int) = IntKind.u64.wrap (((BitVec.ofInt 64 ((m * 256 : Nat) : Int) ||| BitVec.ofInt 64 (cb : Int)).toNat : Nat) : Int) := rfl
  have e1 : (BitVec.ofInt 64 ((m * 256 : Nat) : Int)).toNat = m * 256 := by
    rw [BitVec.ofInt_natCast, BitVec.toNat_ofNat]
    omega
  have e2 : (BitVec.ofInt 64 (cb : Int)).toNat = cb := by
    rw [BitVec.ofInt_natCast, BitVec.toNat_ofNat]
    omega
  have e3 : m * 256 ||| cb = 256 * m + cb := by
    have := Nat.two_pow_add_eq_or_of_lt (i := 8) hc m
    rw [show (2 : Nat) ^ 8 = 256 from rfl] at this
    rw [this, Nat.mul_comm]
  rw [h, BitVec.toNat_or, e1, e2, e3, IntKind.wrap_u64]
  omega

def NumberPost (xs : List UInt8) (w : World) (e : Ending) (w' : World) : Prop :=
  ∃ x : Int, e = .returned (.tuple #[.int .i64 x, .bool (decide (un xs ≤ 4611686018427387903))]) ∧ (un xs ≤ 4611686018427387903 → x = un xs) ∧ w = w'

def NumRel (w0 : World) (xs : List UInt8) (n i : Value) (wr : World) : Prop :=
  ∃ k : Nat, k ≤ xs.length ∧ i = .int .i64 ((k : Int) - 1) ∧ n = .int .u64 ((un (xs.drop k) : Nat) : Int) ∧ wr = w0

set_option maxRecDepth 100000 in
set_option maxHeartbeats 1000000 in
theorem number_any (v : Value) (xs : List UInt8) (w : World) (hv : RB w v xs) (h8 : xs.length ≤ 8) :
    Calls Try.prog 27 #[v] w (NumberPost xs w) := by
  obtain ⟨a, c, rfl, hc1, hc2, hc3⟩ := hv
  have hcell : Hid (∀ i (h : i < xs.length), ∃ b o, a = some ⟨b, o, none⟩ ∧ w.cell? ⟨b, o + i, none⟩ = some (byte xs[i])) := Lib.hid (by
    intro i h
    rcases hc3 with ⟨rfl, rfl⟩ | ⟨b, o, s, rfl, hs, h4⟩
    · omega
    · obtain rfl := hs (fun h => by subst h; simp at *)
      exact ⟨b, o, rfl, h4 i h⟩)
  clear hc3
  go_enter Try.func27, Try.ntmps27
  go_wp2_with (fail)
  go_loopw [4, 5] (fun n i wr => NumRel w xs n i wr) (fun _ i _ => (intOf i + 1).toNat)
  case atStart => exact ⟨xs.length, Nat.le_refl _, rfl, by simp [un], rfl⟩
  case round =>
    obtain ⟨k, hk, rfl, rfl, rfl⟩ := hrel
    cases k with
    | zero =>
      go_wp2_with (fail)
      go_ret2
      refine ⟨wrap64 (un xs : Int), ?_, fun h => by unfold wrap64; omega, rfl⟩
      have hd : decide ((un xs : Int) ≤ 4611686018427387903) = decide (un xs ≤ 4611686018427387903) := by
        apply decide_eq_decide.2
        omega
      rw [← hd]
      rfl
    | succ k =>
      obtain ⟨b, o, rfl, hcc⟩ := hcell.out k hk
      unfold byte at hcc
      have hlt := (xs[k]).toNat_lt
      have hun := un_drop (l := xs) hk
      have hul := un_lt (xs.drop (k + 1))
      have hm7 : un (xs.drop (k + 1)) < 256 ^ 7 := by
        rw [List.length_drop] at hul
        exact Nat.lt_of_lt_of_le hul (Nat.pow_le_pow_right (by decide) (by omega))
      generalize un (xs.drop (k + 1)) = m at *
      generalize (xs[k]).toNat = cb at *
      have HOR := Lib.hid (or_byte m cb hm7 hlt)
      go_wp2_with (fail)
      refine ⟨⟨k, by omega, rfl, by rw [HOR.out, hun], rfl⟩, by simp [intOf]⟩

end Go.Proofs.Ytpecbhimnpjkdaa
