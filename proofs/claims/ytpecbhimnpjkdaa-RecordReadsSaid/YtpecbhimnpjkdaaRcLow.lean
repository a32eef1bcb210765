/- Numbers as eight bytes, the lowest first. -/
import Derived.Test.YtpecbhimnpjkdaaRcBase
namespace Go.Proofs.Ytpecbhimnpjkdaa
open Go.RowKit Go.Sb

def le (n : Nat) : Nat → List UInt8
  | 0 => []
  | k + 1 => UInt8.ofNat n :: le (n / 256) k

theorem le_length (n k : Nat) : (le n k).length = k := by
  induction k generalizing n with
  | zero => rfl
  | succ k ih => simp [le, ih]

theorem le_snoc (n k : Nat) : le n (k + 1) = le n k ++ [UInt8.ofNat (n / 256 ^ k)] := by
  induction k generalizing n with
  | zero => simp [le]
  | succ k ih =>
    rw [le, ih, le, List.cons_append]
    congr 3
    rw [Nat.div_div_eq_div_mul, Nat.pow_succ, Nat.mul_comm]

def NewBytes (w : World) (xs : List UInt8) (e : Ending) (w' : World) : Prop := ∃ v, e = .returned v ∧ OB 5 (fun k => w.heap.size ≤ k) w' v xs ∧ Fr (fun _ => False) w w'

theorem info5 : (Try.prog.info? 5).map (fun i => (i.zero, i.size, i.bytes)) = some (some (.int .u8 0), 1, 1) := by kernel_rfl

theorem byte_of (m : Nat) : Value.int .u8 ((m : Int) % 256) = byte (UInt8.ofNat m) := by
  unfold byte
  have h : (UInt8.ofNat m).toNat = m % 256 := UInt8.toNat_ofNat'
  rw [h, Int.natCast_emod]
  rfl

theorem src_byte (w : World) (c : Value) (hc : c.oneCell' = true) (T : TypeId) : Src (w.alloc (.cells #[c] T)) (.slice (some ⟨w.heap.size, 0, none⟩) 1 1) 1 1 [c] := by
  refine ⟨by simp, fun u hu => by simp at hu; subst hu; exact hc, .inr ⟨_, 1, rfl, fun j u hu => ?_⟩⟩
  cases j with
  | zero =>
    simp at hu
    subst hu
    rw [show ((⟨w.heap.size, 0, none⟩ : Addr).add 0) = ⟨w.heap.size, 0, none⟩ from rfl]
    exact cell_is (heap_alloc_eq _ _) 0 rfl
  | succ j => simp at hu

def LowRel (w0 : World) (n : Nat) (x v i : Value) (wr : World) : Prop :=
  ∃ k : Nat, k ≤ 8 ∧ i = .int .i64 (k : Int) ∧ x = .int .i64 ((n / 256 ^ k : Nat) : Int) ∧ OB 5 (fun x => w0.heap.size ≤ x) wr v (le n k) ∧ Fr (fun _ => False) w0 wr

set_option maxRecDepth 100000 in
set_option maxHeartbeats 1000000 in
theorem low_any (n : Nat) (w : World) (hn : n ≤ 9223372036854775807) :
    Calls Try.prog 30 #[.int .i64 (n : Int)] w (NewBytes w (le n 8)) := by
  go_enter Try.func30, Try.ntmps30
  go_wp2_with (fail)
  go_loopw [0, 3, 4] (fun x v i wr => ∃ vv, vv = v ∧ LowRel w n x vv i wr) (fun _ _ i _ => 8 - (intOf i).toNat)
  case atStart => exact ⟨_, rfl, 0, by omega, rfl, by simp, Own.nil _ _ _ _, Fr.refl _ _⟩
  case round =>
    obtain ⟨vv, rfl, k, hk, rfl, rfl, hv, hf⟩ := hrel
    have HV2 := Lib.hid hv
    have HF2 := Lib.hid hf
    clear hv hf
    by_cases hlt : k < 8
    · have hm : n / 256 ^ k ≤ 9223372036854775807 := Nat.le_trans (Nat.div_le_self _ _) hn
      have hd : (((n / 256 ^ k : Nat) : Int) / 256) = ((n / 256 ^ (k + 1) : Nat) : Int) := by
        rw [Nat.pow_succ, ← Nat.div_div_eq_div_mul]
        omega
      have HL : Hid (le n (k + 1) = le n k ++ [UInt8.ofNat (n / 256 ^ k)]) := le_snoc n k
      have hlk := le_length n k
      have HLK := Lib.hid hlk
      generalize hm2 : n / 256 ^ (k + 1) = m2 at *
      have HM2 := Lib.hid hm2
      clear hm2
      generalize n / 256 ^ k = m at *
      clear hlk
      go_wp2_with (at_builtin; refine wpList_append_Own _ rfl _ _ 22 rfl 5 (.int .u8 0) 1 1 Try.underlying22 info5 rfl (by decide) vv _ _ rfl (HV2.out.alloc _) (.slice (some ⟨wr.heap.size, 0, none⟩) 1 1) 1 _ rfl (src_byte wr (.int .u8 ((m : Int) % 256)) rfl 5) (by rw [HLK.out]; unfold maxLen; omega) (by rw [HLK.out]; omega) ?_; intro v3 w3 hv3 hf3 hn3 _)
      have hfr : Fr (fun _ => False) w w3 := (HF2.out.alloc _).trans hf3 (fun j hj he => absurd (HV2.out.block j he).1 (by omega))
      have HF3 := Lib.hid hfr
      have HV3 := Lib.hid hv3
      clear hv3 hf3 hn3 hfr
      go_roundw
      case rel =>
        refine ⟨_, rfl, k + 1, hlt, rfl, by rw [HM2.out], ?_, HF3.out⟩
        have h := HV3.out
        have em : [Value.int .u8 ((m : Int) % 256)] = [UInt8.ofNat m].map byte := by rw [byte_of]; rfl
        rw [em, ← List.map_append] at h
        unfold OB
        rw [HL.out]
        have e : (le n k ++ [UInt8.ofNat m]).length = (le n k).length + 1 := by simp
        rw [e]
        exact h.mono (fun j _ hj => hj.elim id (fun h => by have := HF2.out.size; simp at h; omega))
      case measure => simp [intOf]; omega
    · have hk8 : k = 8 := by omega
      subst hk8
      go_wp2_with (fail)
      go_ret
      exact ⟨_, rfl, HV2.out, HF2.out⟩

end Go.Proofs.Ytpecbhimnpjkdaa
