/- FrameSums, walked. -/
import Derived.Test.YtgobbgklmjnnlaaFrShown
import Derived.Test.YtgobbgklmjnnlaaFrRef
import Derived.Test.YtgobbgklmjnnlaaFrKit
namespace Go.Proofs.Ytgobbgklmjnnlaa
open Go.RowKit Go.Sb

theorem OB.mono {E : TypeId} {F G : Nat → Prop} {w : World} {v : Value} {zs : List UInt8} (h : OB E F w v zs) (hF : ∀ k, k < w.heap.size → F k → G k) : OB E G w v zs := Own.mono h hF

/-- The head of a slice that the call itself made. -/
theorem OB.cutn {E : TypeId} {F : Nat → Prop} {w : World} {g m n cap : Nat} {zs : List UInt8} (h : OB E F w (.slice (some ⟨g, 0, none⟩) m cap) zs) (hn : n ≤ zs.length) : OB E F w (.slice (some ⟨g, 0, none⟩) n cap) (zs.take n) := by
  obtain ⟨h1, h2⟩ := h
  have hl : (zs.take n).length = n := by simp; omega
  refine ⟨by simp, ?_⟩
  rcases h2 with ⟨h, _⟩ | ⟨g', cap', cur, he, hb, hg, hnc, hcm, hcs, ht⟩
  · cases h
  · simp only [Value.slice.injEq, Option.some.injEq, Addr.mk.injEq, and_true] at he
    obtain ⟨rfl, hm, rfl⟩ := he
    refine .inr ⟨g, cap, cur, by rw [hl], hb, hg, by omega, hcm, hcs, ?_⟩
    rw [hl, List.map_take, ← ht, List.take_take, Nat.mul_one, Nat.mul_one, Nat.min_eq_left hn]

theorem bits_xor8 (c : UInt8) : bits .xor .u8 (c.toNat : Int) 33 = ((c ^^^ 33).toNat : Int) := by
  have h : ∀ c : BitVec 8, bits .xor .u8 ((UInt8.ofBitVec c).toNat : Int) 33 = ((UInt8.ofBitVec c ^^^ 33).toNat : Int) := by decide +kernel
  exact h c.toBitVec

/-- The bytes are being written over. -/
def OverRel (w : World) (g n c : Nat) (i : Value) (wr : World) : Prop :=
  ∃ (k : Nat) (zs : List UInt8), i = .int .i64 (k : Int) ∧ k ≤ n ∧ zs.length = n ∧ OB 5 (fun k => w.heap.size ≤ k) wr (.slice (some ⟨g, 0, none⟩) n c) zs ∧ Fr (fun _ => False) w wr

theorem OverRel.step {w wr : World} {g n c k : Nat} {zs : List UInt8} (hz : zs.length = n) (hk : k < n) (h : OB 5 (fun k => w.heap.size ≤ k) wr (.slice (some ⟨g, 0, none⟩) n c) zs) (hf : Fr (fun _ => False) w wr) (x : UInt8) :
    OB 5 (fun k => w.heap.size ≤ k) (wr.setCell ⟨g, k, none⟩ (byte x)) (.slice (some ⟨g, 0, none⟩) n c) (zs.set k x) ∧ Fr (fun _ => False) w (wr.setCell ⟨g, k, none⟩ (byte x)) := by
  refine ⟨?_, hf.setCell (.inr (h.block g rfl).1) _⟩
  unfold OB
  rw [List.length_set, List.map_set]
  exact Own.set h rfl (by omega)

set_option maxRecDepth 100000 in
set_option maxHeartbeats 1000000 in
theorem sums_any (v0 v1 : Value) (xs ys : List UInt8) (w : World) (h0 : RB w v0 xs) (h1 : RB w v1 ys) (hx : xs.length ≤ 140737488351232) :
    Calls Try.prog 3 #[v0, v1] w fun e w' => e = .returned (.bool true) ∧ Fr (fun _ => False) w w' := by
  have H0 := Lib.hid h0
  have H1 := Lib.hid h1
  obtain ⟨a0, c0, rfl, _⟩ := h0
  clear h1
  go_enter Try.func3, Try.ntmps3
  go_wp2_with (fail)
  refine (shown_any w).mono ?_
  rintro e w1 ⟨rfl, hf1⟩
  have HF1 := Lib.hid hf1
  clear hf1
  go_wp2_with (fail)
  refine (lent_any _ xs w1 (H0.out.fr HF1.out) (by omega)).mono ?_
  rintro e w2 ⟨v2, rfl, hv2, hf2, hn2⟩
  have HF2 := Lib.hid (none_fr HF1.out hf2)
  rcases hv2.shape with ⟨h, _⟩ | ⟨g, c, rfl, hc1, hc2, hg⟩
  · exact absurd h hn2
  have hl8 : (xs ++ List.replicate 8 (0xA5 : UInt8)).length = xs.length + 8 := by simp
  have hcut := OB.cutn (n := xs.length) hv2 (by omega)
  rw [List.take_left] at hcut
  rw [hl8] at hv2 hc1 ⊢
  have HL := Lib.hid (OB.mono (G := fun k => w.heap.size ≤ k) hv2 (fun k _ h => Nat.le_trans HF1.out.size h))
  have HI := Lib.hid (OB.mono (G := fun k => w.heap.size ≤ k) hcut (fun k _ h => Nat.le_trans HF1.out.size h))
  unfold maxLen at hc2
  clear hv2 hf2 hn2 hcut hl8
  go_wp2_with (fail)
  refine (sum_any _ xs w2 HI.out.rb).mono ?_
  rintro e w3 ⟨rfl, hf3⟩
  have HF3 := Lib.hid (none_fr HF2.out hf3)
  have HI3 := Lib.hid (hv3_of HI.out hf3)
  have HL3 := Lib.hid (hv3_of HL.out hf3)
  clear HI HL hf3
  go_wp2_with (fail)
  refine (sum_any _ ys w3 (H1.out.fr HF3.out)).mono ?_
  rintro e w4 ⟨rfl, hf4⟩
  have HF4 := Lib.hid (none_fr HF3.out hf4)
  have HI4 := Lib.hid (hv3_of HI3.out hf4)
  have HL4 := Lib.hid (hv3_of HL3.out hf4)
  clear HI3 HL3 hf4
  go_wp2_with (fail)
  refine (sum_any _ xs w4 HI4.out.rb).mono ?_
  rintro e w5 ⟨rfl, hf5⟩
  have HF5 := Lib.hid (none_fr HF4.out hf5)
  have HI5 := Lib.hid (hv3_of HI4.out hf5)
  have HL5 := Lib.hid (hv3_of HL4.out hf5)
  clear HI4 HL4 hf5
  go_wp2_with (fail)
  refine (refsum_any _ xs w5 (H0.out.fr HF5.out)).mono ?_
  rintro e w6 ⟨rfl, rfl⟩
  go_wp2_with (fail)
  refine (refsum_any _ ys w5 (H1.out.fr HF5.out)).mono ?_
  rintro e w6 ⟨rfl, rfl⟩
  go_wp2_with (fail)
  refine (still_any _ _ xs w5 HL5.out.rb (H0.out.fr HF5.out)).mono ?_
  rintro e w6 ⟨rfl, m, rfl⟩
  have HF6 := Lib.hid (HF5.out.drewN m)
  have HI6 := Lib.hid (Own.drewN HI5.out m)
  clear HF5 HI5 HL5
  go_wp2_with (fail)
  go_loopw [10] (fun i wr => OverRel w g xs.length c i wr) (fun i _ => xs.length - (intOf i).toNat)
  case atStart => exact ⟨0, xs, rfl, Nat.zero_le _, rfl, HI6.out, HF6.out⟩
  case round =>
    obtain ⟨k, zs, rfl, hk, hz, hv, hf⟩ := hrel
    by_cases hlt : k < xs.length
    · have hc : wr.cell? ⟨g, k, none⟩ = some (byte (zs[k]'(by omega))) := hv.cell rfl (by simp [hz, hlt])
      have hfz := hv.frozen rfl k
      have hx8 := bits_xor8 (zs[k]'(by omega))
      obtain ⟨HS1, HS2⟩ := OverRel.step hz hlt hv hf (zs[k]'(by omega) ^^^ 33)
      have HS1 := Lib.hid HS1
      have HS2 := Lib.hid HS2
      clear hv hf
      unfold byte at hc HS1 HS2
      generalize zs[k]'(by omega) = x at *
      go_wp2_with (fail)
      go_roundw
      case rel => exact ⟨k + 1, zs.set k (x ^^^ 33), rfl, hlt, by simpa using hz, HS1.out, HS2.out⟩
      case measure => simp [intOf]; omega
    · have hkn : k = xs.length := by omega
      subst hkn
      have HI7 := Lib.hid hv
      have HF7 := Lib.hid hf
      have HZ := Lib.hid hz
      clear hv hf
      have hr := HI7.out.rb
      rw [← hz] at hr
      go_wp2_with (fail)
      refine (sum_any _ zs wr HI7.out.rb).mono ?_
      rintro e w8 ⟨rfl, hf8⟩
      have HF8 := Lib.hid (none_fr HF7.out hf8)
      have HI8 := Lib.hid (hv3_of HI7.out hf8)
      clear HI7 hf8 hr
      go_wp2_with (fail)
      refine (copied_any _ zs w8 HI8.out.rb (by omega)).mono ?_
      rintro e w9 ⟨v9, rfl, hv9, hf9, _⟩
      have HF9 := Lib.hid (none_fr HF8.out hf9)
      have HV9 := Lib.hid hv9
      clear hf9 hv9
      go_wp2_with (fail)
      refine (refsum_any _ zs w9 HV9.out.rb).mono ?_
      rintro e w10 ⟨rfl, rfl⟩
      go_wp2_with (fail)
      go_ret
      exact ⟨rfl, HF9.out⟩

end Go.Proofs.Ytgobbgklmjnnlaa
