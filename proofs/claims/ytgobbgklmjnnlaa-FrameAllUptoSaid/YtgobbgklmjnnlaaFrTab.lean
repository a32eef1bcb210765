/- 'table' and 'over' of the frame. -/
import Derived.Test.YtgobbgklmjnnlaaRows
import Derived.Test.YtgobbgklmjnnlaaCrcB
import Derived.Test.YtgobbgklmjnnlaaAggs
import Derived.Test.YtgobbgklmjnnlaaFrBytes
namespace Go.Proofs.Ytgobbgklmjnnlaa
open Go.RowKit Go.Sb

set_option maxRecDepth 100000 in
set_option maxHeartbeats 1000000 in
theorem table_any (w : World) : Calls Try.prog 33 #[] w fun e w' => e = .returned (.agg tabA) ∧ w' = w.alloc (.cells tabA 56) := by
  go_enter Try.func33, Try.ntmps33
  go_wp2_with (fail)
  refine bodyPost_ret (v := .agg tabA) (by simp [results, Try.results33, go_sem]; rfl) rfl ⟨rfl, ?_⟩
  rfl

set_option maxRecDepth 100000 in
set_option maxHeartbeats 1000000 in
theorem over_some (r0 : BitVec 32) (bt b o c : Nat) (xs : List UInt8) (w : World) (hm : xs.length ≤ 9223372036854775807)
    (hc : ∀ i (h : i < xs.length), w.cell? ⟨b, o + i, none⟩ = some (byte xs[i])) (ht : w.heap[bt]? = some (.cells tabA 56 (0, 0))) :
    Calls Try.prog 34 #[.int .u32 (r0.toNat : Int), .pointer (some ⟨bt, 0, none⟩), .slice (some ⟨b, o, none⟩) xs.length c] w fun e w' => e = .returned (.int .u32 ((overB r0 xs).toNat : Int)) ∧ w = w' := by
  have HC := Lib.hid hc
  have HT := Lib.hid ht
  clear hc ht
  go_enter Try.func34, Try.ntmps34
  go_wp2_with (fail)
  go_loop [0, 11] (fun r i => ∃ (k : Nat), i = .int .i64 k ∧ k ≤ xs.length ∧ r = .int .u32 ((overB r0 (xs.take k)).toNat : Int)) (fun _ i => xs.length - (intOf i).toNat)
  case atStart => exact ⟨0, rfl, by omega, rfl⟩
  case round =>
    obtain ⟨k, rfl, hk, rfl⟩ := hrel
    by_cases hlt : k < xs.length
    · have hx := HC.out k hlt
      have hn : overB r0 (xs.take (k + 1)) = stepB (overB r0 (xs.take k)) xs[k] := by rw [take_snoc xs k hlt, overB_snoc]
      have HN := Lib.hid hn
      clear hn
      generalize overB r0 (xs.take k) = r at *
      have hb := xs[k].toNat_lt
      generalize xs[k] = c at *
      unfold byte at hx
      have h1 := bits_xor32_byte r c
      obtain ⟨i1, s1, t1, p1, p2, p3, p4, p5⟩ := nib_facts HT.out (inB r c)
      obtain ⟨i2, s2, t2, q1, q2, q3, q4, q5⟩ := nib_facts HT.out (nib (inB r c))
      have hn2 : (overB r0 (xs.take (k + 1))).toNat = (nib (nib (inB r c))).toNat := by rw [HN.out]; rfl
      have HN2 := Lib.hid hn2
      clear hn2 HN
      generalize (nib (nib (inB r c))).toNat = r3 at *
      generalize (nib (inB r c)).toNat = r2 at *
      generalize (inB r c).toNat = r1 at *
      go_wp2_with (fail)
      go_round
      case rel => exact ⟨k + 1, rfl, by omega, by rw [HN2.out]⟩
      case measure => simp [intOf]; omega
    · have hkn : k = xs.length := by omega
      subst hkn
      have HE := Lib.hid (List.take_length (l := xs))
      go_wp2_with (fail)
      go_ret
      exact ⟨rfl, rfl⟩

end Go.Proofs.Ytgobbgklmjnnlaa
