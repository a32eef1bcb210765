/- The document's examples, as the laws ask for them first. -/
import Derived.Test.YtpecbhimnpjkdaaRcGet
namespace Go.Proofs.Ytpecbhimnpjkdaa
open Go.RowKit Go.Sb

theorem wpList_conv_w {w : World} {ops : Array Oper} {rest : List Oper} {o : Oper} {a : Act} {Q : Exit → Act → World → Prop} (hw : Region.wanted o (yielded ops a.tmps) = true) (so : Operand) (hop : o.op = .convert 22 9 so) (v : Value) (xs : List UInt8) (hs : a.eval so = v) (hb : RB w v xs)
    (hK : wpList Try.prog ops Q rest (a.put o.dst (.string ⟨xs.toArray⟩)) w) : wpList Try.prog ops Q (o :: rest) a w := by
  refine wpList_step fun K' hK' => ?_
  rw [if_pos hw]
  have hrun := conv_rb hb
  unfold Oper.wp
  simp [execOp, hop, hs, hrun, Result.andThen]
  exact hK' _ _ hK

theorem rb_lit (w : World) (xs : List UInt8) (T : TypeId) (hm : xs.length ≤ maxLen) : RB (w.alloc (.cells (xs.map byte).toArray T)) (.slice (some ⟨w.heap.size, 0, none⟩) xs.length xs.length) xs := by
  refine ⟨_, _, rfl, Nat.le_refl _, hm, .inr ⟨_, 0, none, rfl, fun _ => rfl, fun i hi => ?_⟩⟩
  refine cell_is (heap_alloc_eq w _) _ ?_
  simp [hi]

def nsG (n : Int) : List Int := [0, 0, 0, 0, 0, 0, 0, 0, 0, 0, 0, 0, 0, 0, 0, n]
def nsH : List Int := [0, 0, 0, 0, 0, 0, 0, 0, 0, 0, 0, 0, 0, 1, 7, 0]
def bytesH : List UInt8 := [1, 1, 0, 0, 0, 0, 0, 0, 0, 7, 0, 0, 0, 0, 0, 0, 0]

theorem shown_put : putX 4 (nsG 258) ⟨#[]⟩ [] = [4, 2, 1, 0, 0, 0, 0, 0, 0] := by decide +kernel
theorem shown_check : checkE 4 (nsG 258) ⟨#[]⟩ 0 = 0 := by decide +kernel
theorem shown_get : getG bytesH = ⟨1, nsH, ⟨#[]⟩, [], 0⟩ := by kernel_rfl
theorem shown_size : sizeN 4 (nsG 1) ⟨#[]⟩ 0 = 17 := by decide +kernel
theorem shown_no : checkE 5 (nsG 0) ⟨#[]⟩ 0 = 100 := by decide +kernel

set_option maxRecDepth 100000 in
set_option maxHeartbeats 1000000 in
theorem shown_any (w : World) : Calls Try.prog 10 #[] w fun e w' => e = .returned (.bool true) ∧ Fr (fun _ => False) w w' := by
  have H1 := Lib.hid (put_any 4 (nsG 258) ⟨#[]⟩ (.slice none 0 0) [] w rfl (RB.nil w))
  have H2 : Hid (∀ w' : World, Calls Try.prog 11 #[.slice (some ⟨w'.heap.size, 0, none⟩) 17 17] (w'.alloc (.cells (bytesH.map byte).toArray 5)) (GetPost (getG bytesH) (w'.alloc (.cells (bytesH.map byte).toArray 5)))) := Lib.hid (fun w' => get_any _ bytesH _ (rb_lit w' bytesH 5 (by decide)) (by decide))
  rw [shown_get] at H2
  have H3 : Hid (∀ w' : World, Calls Try.prog 11 #[.slice none 0 0] w' (GetPost ⟨0, List.replicate 16 0, ⟨#[]⟩, [], 102⟩ w')) := Lib.hid (fun w' => get_any _ [] _ (RB.nil _) (by decide))
  have H4 : Hid (∀ w' : World, Calls Try.prog 18 #[recV 4 (nsG 1) ⟨#[]⟩ (.slice none 0 0)] w' fun e w'' => e = .returned (.int .i64 17) ∧ Fr (fun _ => False) w' w'') := Lib.hid (fun w' => by have h := size_any 4 (nsG 1) ⟨#[]⟩ none 0 0 w' rfl; rw [shown_size] at h; exact h)
  have H5 : Hid (∀ w' : World, Calls Try.prog 14 #[recV 5 (nsG 0) ⟨#[]⟩ (.slice none 0 0)] w' fun e w'' => e = .returned (.int .i64 100) ∧ Fr (fun _ => False) w' w'') := Lib.hid (fun w' => by have h := check_any 5 (nsG 0) ⟨#[]⟩ none 0 0 w' rfl; rw [shown_no] at h; exact h)
  have hcA : cfgE 1 256 1024 = 0 := by decide
  have hcB : cfgE 0 0 0 = 103 := by decide
  rw [shown_put] at H1
  rw [show ([] : List UInt8).length = 0 from rfl, shown_check] at H1
  go_enter Try.func10, Try.ntmps10
  go_wp2_with (fail)
  refine H1.out.mono ?_
  rintro e w1 ⟨v1, rfl, hv1, hf1⟩
  have HV1 := Lib.hid hv1
  have HF1 := Lib.hid hf1
  clear hv1 hf1
  go_wp2_with (fail)
  refine (H2.out w1).mono ?_
  rintro e w2 ⟨v2, rfl, hv2, hf2⟩
  have HF2 := Lib.hid ((HF1.out.alloc (.cells (bytesH.map byte).toArray 5)).trans hf2 (fun _ _ h => h))
  have HV2 := Lib.hid (HV1.out.fr (((Fr.refl (fun _ => False) w1).alloc _).trans hf2 (fun _ _ h => h)) (fun _ _ _ h => h))
  obtain ⟨a2, c2, rfl, -⟩ := hv2.rb
  clear hv2 hf2
  go_wp2_with ((refine store_guard _ _ _ _ rfl ?_); refine wpList_store_agg _ rfl _ _ 29 rfl w2.heap.size 29 _ (recC 1 nsH ⟨#[]⟩ (.slice a2 0 c2)) rfl rfl info29s (heap_alloc_eq _ _) rfl (one19 _ _ _ _ _ _) ?_; intro w3 hw3 hf3; have HW3 := Lib.hid hw3; have HF3 := Lib.hid (((Fr.refl (fun _ => False) w2).alloc _).trans hf3 (fun x hx h => by omega)); clear hw3 hf3)
  refine (H3.out w3).mono ?_
  rintro e w4 ⟨v4, rfl, hv4, hf4⟩
  obtain ⟨a4, c4, rfl, -⟩ := hv4.rb
  have HF4 := Lib.hid ((HF2.out.trans HF3.out (fun _ _ h => h)).trans hf4 (fun _ _ h => h))
  have HV4 := Lib.hid ((HV2.out.fr HF3.out (fun _ _ _ h => h)).fr hf4 (fun _ _ _ h => h))
  have HW4 := Lib.hid (hf4.get HW3.out id)
  clear hv4 hf4
  go_wp2_with (first
    | ((refine store_guard _ _ _ _ rfl ?_); refine wpList_store_agg _ rfl _ _ 29 rfl w4.heap.size 29 _ (recC 0 (List.replicate 16 0) ⟨#[]⟩ (.slice a4 0 c4)) rfl rfl info29s (heap_alloc_eq _ _) rfl (one19 _ _ _ _ _ _) ?_; intro w5 hw5 hf5; have hf45 : Fr (fun _ => False) w4 w5 := ((Fr.refl (fun _ => False) w4).alloc _).trans hf5 (fun x hx h => by omega); have hw55 := hf45.get HW4.out id; have HF5 := Lib.hid (HF4.out.trans hf45 (fun _ _ h => h)); have HV5 : Hid (RB w5 v1 [4, 2, 1, 0, 0, 0, 0, 0, 0]) := Lib.hid (OB.rb (E := 5) (F := fun x => w.heap.size ≤ x) (HV4.out.fr hf45 (fun _ _ _ h => h))); have c0 : w5.cell? ⟨w2.heap.size, 0, none⟩ = some (.int .i64 1) := cell_is hw55 0 rfl; have c1 : w5.cell? ⟨w2.heap.size, 1, none⟩ = some (.int .i64 1) := cell_is hw55 1 rfl; have c2' : w5.cell? ⟨w2.heap.size, 2, none⟩ = some (.int .i64 7) := cell_is hw55 2 rfl; clear hw5 hf5 hf45 hw55)
    | (refine wpList_conv_w (by rfl) _ rfl _ _ rfl HV5.out ?_)
    | (go_at_call 18; refine (H4.out _).mono ?_; rintro e w6 ⟨rfl, hf6⟩; have HF6 := Lib.hid (HF5.out.trans hf6 (fun _ _ h => h)); clear hf6)
    | (go_at_call 14; refine (H5.out _).mono ?_; rintro e w7 ⟨rfl, hf7⟩; have HF7 := Lib.hid (HF6.out.trans hf7 (fun _ _ h => h)); clear hf7))
  refine (config_any 1 256 1024 _).mono ?_
  rintro e w8 ⟨rfl, hf8⟩
  rw [hcA]
  have HF8 := Lib.hid (HF7.out.trans hf8 (fun _ _ h => h))
  clear hf8
  go_wp2_with (fail)
  refine (config_any 0 0 0 _).mono ?_
  rintro e w9 ⟨rfl, hf9⟩
  rw [hcB]
  have HF9 := Lib.hid (HF8.out.trans hf9 (fun _ _ h => h))
  clear hf9
  go_wp2_with (fail)
  go_ret
  exact ⟨rfl, HF9.out⟩

end Go.Proofs.Ytpecbhimnpjkdaa
