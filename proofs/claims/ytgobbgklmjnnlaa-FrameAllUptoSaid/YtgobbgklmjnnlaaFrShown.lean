/- The document's examples, as the laws ask for them first. -/
import Derived.Test.YtgobbgklmjnnlaaFrMakeAny
namespace Go.Proofs.Ytgobbgklmjnnlaa
open Go.RowKit Go.Sb

theorem rb_lit (w : World) (xs : List UInt8) (T : TypeId) (hm : xs.length ≤ maxLen) : RB (w.alloc (.cells (xs.map byte).toArray T)) (.slice (some ⟨w.heap.size, 0, none⟩) xs.length xs.length) xs := by
  refine ⟨_, _, rfl, Nat.le_refl _, hm, .inr ⟨_, 0, none, rfl, fun _ => rfl, fun i hi => ?_⟩⟩
  refine cell_is (heap_alloc_eq w _) _ ?_
  simp [hi]

theorem crc_shown : (crcB [49, 50, 51, 52, 53, 54, 55, 56, 57]).toNat = 3421780262 := by decide +kernel
theorem frame_shown : ∃ r : List UInt8, frameOf 1 0 [97] = 1 :: r ∧ r.length = 8 ∧ r[7]? = some 97 := ⟨_, rfl, by simp [le_length], by decide +kernel⟩

set_option maxRecDepth 100000 in
set_option maxHeartbeats 1000000 in
theorem shown_any (w : World) : Calls Try.prog 12 #[] w fun e w' => e = .returned (.bool true) ∧ Fr (fun _ => False) w w' := by
  obtain ⟨r, hr, hr8, hr7⟩ := frame_shown
  have h1 := rb_lit w [49, 50, 51, 52, 53, 54, 55, 56, 57] 5 (by decide)
  have H1 := Lib.hid (sum_any _ _ _ h1)
  clear h1
  go_enter Try.func12, Try.ntmps12
  go_wp2_with (fail)
  refine H1.out.mono ?_
  rintro e w1 ⟨rfl, hf1⟩
  rw [crc_shown]
  have HF1 := Lib.hid (((Fr.refl (fun _ => False) w).alloc _).trans hf1 (fun _ _ h => h))
  clear hf1
  go_wp2_with (fail)
  refine (make_any 1 0 _ [97] _ (rb_lit w1 [97] 5 (by decide))).mono ?_
  rintro e w2 ⟨v2, rfl, hv2, hf2⟩
  have he : errM 1 0 [97] = 0 := by decide
  have ho : outM 1 0 [97] = frameOf 1 0 [97] := by unfold outM; rw [he]; rfl
  rw [ho, hr] at hv2
  rw [he]
  have HF2 := Lib.hid (none_fr (HF1.out.alloc _) hf2)
  have HV2 := Lib.hid hv2
  clear hf2 hv2 he ho
  go_wp2_with (fail)
  refine (take_any 1 0 _ [1, 0, 0] _ (rb_lit w2 [1, 0, 0] 5 (by decide))).mono ?_
  have he : errOf 1 0 [1, 0, 0] = 21 := by simp [errOf, Placed]
  rw [ans_err he (by decide)]
  clear he
  rintro e w3 ⟨v3, rfl, hv3, hf3⟩
  have HF3 := Lib.hid (none_fr (HF2.out.alloc _) hf3)
  have HV4 := Lib.hid (hv3_of (HV2.out.alloc _) hf3)
  rcases hv3.rb with ⟨a3, c3, rfl, _⟩
  rcases HV4.out.shape with ⟨_, h, _⟩ | ⟨g, c, rfl, h1, h2, hg⟩
  · simp at h
  · have hc0 : w3.cell? ⟨g, 0, none⟩ = some (.int .u8 1) := HV4.out.cell hg rfl
    have hc8 : w3.cell? ⟨g, 8, none⟩ = some (.int .u8 97) := HV4.out.cell hg (by simp [hr7]; rfl)
    simp only [List.length_cons, hr8] at h1 h2 ⊢
    clear hv3 hf3 HV2 HV4 hr hr7
    go_wp2_with (fail)
    go_ret
    exact ⟨rfl, HF3.out⟩

end Go.Proofs.Ytgobbgklmjnnlaa
