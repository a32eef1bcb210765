/- RecordForms, walked. -/
import Derived.Test.YtpecbhimnpjkdaaRcSame
import Derived.Test.YtpecbhimnpjkdaaRcPlain
namespace Go.Proofs.Ytpecbhimnpjkdaa
open Go.RowKit Go.Sb

theorem forms_more {k : Int} {ns : List Int} {tube : ByteArray} {body : List UInt8} (h : checkE k ns tube body.length = 0) (h2 : k ≠ 2) :
    getG ((putL k ns tube body).take ((putL k ns tube body).length - 1)) = noGot ∧ getG (putL k ns tube body ++ [0]) = noGot ∧ 9 ≤ (putL k ns tube body).length ∧ (putL k ns tube body).length ≤ 105 := by
  have hk := (check0 h).1
  have hlen := putL_length (k := k) (ns := ns) (tube := tube) (xs := body)
  rw [if_neg h2] at hlen
  have hl1 : 1 ≤ (ofList k).length := by rcases hk with rfl | rfl | rfl | rfl <;> decide
  have hl2 := ofList_len k
  have he : putL k ns tube body = kindB k :: numsL ns (ofList k) := by rw [putL, if_neg h2, List.append_nil]
  have hnl := numsL_length ns (ofList k)
  have hkb := kindB_toNat hk
  refine ⟨?_, ?_, by omega, by omega⟩
  · refine got_len (c := kindB k) (r := (numsL ns (ofList k)).take ((numsL ns (ofList k)).length - 1)) ?_ (by rw [hkb]; exact hk) (by rw [hkb]; exact h2) ?_
    · rw [he, List.length_cons, Nat.add_sub_cancel]
      obtain ⟨m, hm⟩ : ∃ m, (numsL ns (ofList k)).length = m + 1 := ⟨(numsL ns (ofList k)).length - 1, by omega⟩
      rw [hm, List.take_succ_cons, Nat.add_sub_cancel]
    · rw [hkb, List.length_take]
      omega
  · refine got_len (c := kindB k) (r := numsL ns (ofList k) ++ [0]) ?_ (by rw [hkb]; exact hk) (by rw [hkb]; exact h2) ?_
    · rw [he]; rfl
    · rw [hkb, List.length_append]
      simp
      omega

section
variable {w : World} {ops : Array Oper} {rest : List Oper} {o : Oper} {a : Act} {Q : Exit → Act → World → Prop}
theorem sub_h (w : World) (a : Option Addr) (n c m : Nat) (hm : m ≤ c) : (Instr.sliceAt 22 (.slice a n c) none (some (.int .i64 (m : Int))) none).run Try.prog w = .ok (.slice (if c = 0 then a else a.map (·.add 0)) (m - 0) (c - 0)) w := by
  have hl2 : (m : Int) ≤ c := by omega
  simp [go_sem, hl2]

theorem wpList_cuth (hg : o.guard = none) (so hi : Operand) (hop : o.op = .slice 22 so none (some hi) none) (b : Option Addr) (n c m : Nat) (xs : List UInt8) (hs : a.eval so = .slice b n c) (hhi : a.eval hi = .int .i64 (m : Int)) (hb : RB w (.slice b n c) xs) (hm : m ≤ n)
    (hK : ∀ b' c', RB w (.slice b' m c') (xs.take m) → wpList Try.prog ops Q rest (a.put o.dst (.slice b' m c')) w) : wpList Try.prog ops Q (o :: rest) a w := by
  refine wpList_plain hg fun K' hK' => ?_
  have hb2 := hb.cutlh 0 m (Nat.zero_le _) hm
  obtain ⟨a', c', he, h1, h2, h3⟩ := hb
  cases he
  have hrun := sub_h w b xs.length c m (by omega)
  unfold Oper.wp
  simp only [Nat.sub_zero, List.drop_zero] at hb2 hrun
  simp only [execOp, hop, hs, hhi, hrun, Result.andThen, Option.map, Sem.run_bind, Sem.run_pure]
  exact hK' _ _ (hK _ _ hb2)
end

set_option maxRecDepth 100000 in
set_option maxHeartbeats 2000000 in
theorem forms_no (a : Option Addr) (c : Nat) (xs : List UInt8) (w : World) (hv : RB w (.slice a xs.length c) xs) (hs : xs.length ≤ 140737488351232) (hg : getG xs = noGot) :
    Calls Try.prog 3 #[.slice a xs.length c] w fun e w' => e = .returned (.bool true) ∧ Fr (fun _ => False) w w' := by
  have H1 : Hid (∀ w' : World, Fr (fun _ => False) w w' → Calls Try.prog 11 #[.slice a xs.length c] w' (GetPost ⟨0, List.replicate 16 0, ⟨#[]⟩, [], 102⟩ w')) := Lib.hid (fun w' h => by
    have := get_any _ xs w' (hv.fr h) (by omega)
    rw [hg] at this
    exact this)
  have H2 : Hid (∀ (v : Value) (w' : World), RB w' v [] → Calls Try.prog 12 #[.agg (recC 0 (List.replicate 16 0) ⟨#[]⟩ v), recV 0 (List.replicate 16 0) ⟨#[]⟩ (.slice none 0 0)] w' fun e w'' => e = .returned (.bool true) ∧ Fr (fun _ => False) w' w'') := Lib.hid (fun v w' h => same_eq 0 _ _ v _ [] w' h (RB.nil _))
  clear hv hs hg
  go_enter Try.func3, Try.ntmps3
  go_wp2_with (first
    | (go_at_call 10; refine (shown_any _).mono ?_; rintro e w1 ⟨rfl, hf1⟩; have HF1 := Lib.hid hf1; clear hf1)
    | (go_at_call 11; refine (H1.out _ HF1.out).mono ?_; rintro e w2 ⟨v2, rfl, hv2, hf2⟩; have HF2 := Lib.hid (HF1.out.trans hf2 (fun _ _ h => h)); have HV2 := Lib.hid hv2.rb; obtain ⟨a2, c2, rfl, -⟩ := hv2.rb; clear hf2 hv2)
    | ((refine store_guard _ _ _ _ rfl ?_); refine wpList_store_agg _ rfl _ _ 29 rfl w2.heap.size 29 _ (recC 0 (List.replicate 16 0) ⟨#[]⟩ (.slice a2 0 c2)) rfl rfl info29s (heap_alloc_eq _ _) rfl (one19 _ _ _ _ _ _) ?_; intro w3 hw3 hf3; have HW3 := Lib.hid hw3; have hf23 : Fr (fun _ => False) w2 w3 := ((Fr.refl (fun _ => False) _).alloc _).trans hf3 (fun x hx h => by omega); have HF3 := Lib.hid (HF2.out.trans hf23 (fun _ _ h => h)); have HV3 := Lib.hid (HV2.out.fr hf23); clear hw3 hf3 hf23)
    | ((refine load_guard _ _ rfl ?_); refine wpList_load_row_w (by rfl) 29 _ rfl w2.heap.size rfl 29 _ (0, 0) _ HW3.out Try.underlying29 rfl info29s ?_)
    | (go_at_call 12; refine (H2.out _ _ HV3.out).mono ?_; rintro e w4 ⟨rfl, hf4⟩; have HF4 := Lib.hid (HF3.out.trans hf4 (fun _ _ h => h)); clear hf4))
  go_ret
  exact ⟨rfl, HF4.out⟩

set_option maxRecDepth 100000 in
set_option maxHeartbeats 2000000 in
theorem forms_two (k : Int) (ns : List Int) (tube : ByteArray) (body : List UInt8) (a : Option Addr) (c : Nat) (xs : List UInt8) (w : World) (hv : RB w (.slice a xs.length c) xs) (hs : xs.length ≤ 140737488351232) (hg : getG xs = ⟨k, ns, tube, body, 0⟩) (hc : checkE k ns tube body.length = 0) (hp : putL k ns tube body = xs) (hl : ns.length = 16) (h2 : (k == 2) = true) :
    Calls Try.prog 3 #[.slice a xs.length c] w fun e w' => e = .returned (.bool true) ∧ Fr (fun _ => False) w w' := by
  have H1 : Hid (∀ w' : World, Fr (fun _ => False) w w' → Calls Try.prog 11 #[.slice a xs.length c] w' (GetPost ⟨k, ns, tube, body, 0⟩ w')) := Lib.hid (fun w' h => by
    have := get_any _ xs w' (hv.fr h) (by omega)
    rw [hg] at this
    exact this)
  have H3 : Hid (∀ (v : Value) (w' : World), RB w' v body → Calls Try.prog 13 #[.agg (recC k ns tube v)] w' (TwoPost xs 0 w')) := Lib.hid (fun v w' h => by
    have := put_any k ns tube v body w' hl h
    rw [putX, if_pos hc, hc, hp] at this
    exact this)
  have H4 : Hid (∀ (a' : Option Addr) (c' : Nat) (w' : World), Calls Try.prog 14 #[.agg (recC k ns tube (.slice a' body.length c'))] w' fun e w'' => e = .returned (.int .i64 0) ∧ Fr (fun _ => False) w' w'') := Lib.hid (fun a' c' w' => by have := check_any k ns tube a' body.length c' w' hl; rw [hc] at this; exact this)
  have HB : Hid (∀ w' : World, Fr (fun _ => False) w w' → RB w' (.slice a xs.length c) xs) := Lib.hid (fun w' h => hv.fr h)
  clear hv hs hg hc hp
  obtain rfl : k = 2 := by simpa using h2
  go_enter Try.func3, Try.ntmps3
  go_wp2_with (first
    | (go_at_call 10; refine (shown_any _).mono ?_; rintro e w1 ⟨rfl, hf1⟩; have HF1 := Lib.hid hf1; clear hf1)
    | (go_at_call 11; refine (H1.out _ HF1.out).mono ?_; rintro e w2 ⟨v2, rfl, hv2, hf2⟩; have HF2 := Lib.hid (HF1.out.trans hf2 (fun _ _ h => h)); have HV2 := Lib.hid hv2.rb; obtain ⟨a2, c2, rfl, -⟩ := hv2.rb; clear hf2 hv2 HF1)
    | ((refine store_guard _ _ _ _ rfl ?_); refine wpList_store_agg _ rfl _ _ 29 rfl w2.heap.size 29 _ (recC 2 ns tube (.slice a2 body.length c2)) rfl rfl info29s (heap_alloc_eq _ _) rfl (one19 _ _ _ _ _ _) ?_; intro w3 hw3 hf3; have HW3 := Lib.hid hw3; have hf23 : Fr (fun _ => False) w2 w3 := ((Fr.refl (fun _ => False) _).alloc _).trans hf3 (fun x hx h => by omega); have HF3 := Lib.hid (HF2.out.trans hf23 (fun _ _ h => h)); have HV3 := Lib.hid (HV2.out.fr hf23); clear hw3 hf3 hf23)
    | ((refine load_guard _ _ rfl ?_); refine wpList_load_row rfl 29 _ rfl w2.heap.size rfl 29 _ (0, 0) _ HW3.out Try.underlying29 rfl info29s ?_)
    | (go_at_call 13; refine (H3.out _ _ HV3.out).mono ?_; rintro e w4 ⟨v4, rfl, hv4, hf4⟩; have HF4 := Lib.hid (HF3.out.trans hf4 (fun _ _ h => h)); have HW4 := Lib.hid (hf4.get HW3.out id); have HV4 := Lib.hid hv4.rb; obtain ⟨a4, c4, rfl, -⟩ := hv4.rb; clear hf4 hv4)
    | (refine wpList_conv_w (by rfl) _ rfl _ _ rfl HV4.out ?_)
    | (refine wpList_conv_w (by rfl) _ rfl _ _ rfl (HB.out _ HF4.out) ?_)
    | ((refine load_guard _ _ rfl ?_); refine wpList_load_row_w (by rfl) 29 _ rfl w2.heap.size rfl 29 _ (0, 0) _ HW4.out Try.underlying29 rfl info29s ?_)
    | (go_at_call 14; refine (H4.out _ _ _).mono ?_; rintro e w5 ⟨rfl, hf5⟩; have HF5 := Lib.hid (HF4.out.trans hf5 (fun _ _ h => h)); have hw5 := hf5.get HW4.out id; have c5 : w5.cell? ⟨w2.heap.size, 0, none⟩ = some (.int .i64 2) := cell_is hw5 0 rfl; clear hf5 hw5))
  go_ret
  exact ⟨rfl, HF5.out⟩

set_option maxRecDepth 100000 in
set_option maxHeartbeats 2000000 in
theorem forms_one (k : Int) (ns : List Int) (tube : ByteArray) (body : List UInt8) (a : Option Addr) (c : Nat) (xs : List UInt8) (w : World) (hv : RB w (.slice a xs.length c) xs) (hs : xs.length ≤ 140737488351232) (hg : getG xs = ⟨k, ns, tube, body, 0⟩) (hc : checkE k ns tube body.length = 0) (hp : putL k ns tube body = xs) (hl : ns.length = 16) (h2 : (k == 2) = false) :
    Calls Try.prog 3 #[.slice a xs.length c] w fun e w' => e = .returned (.bool true) ∧ Fr (fun _ => False) w w' := by
  have H1 : Hid (∀ w' : World, Fr (fun _ => False) w w' → Calls Try.prog 11 #[.slice a xs.length c] w' (GetPost ⟨k, ns, tube, body, 0⟩ w')) := Lib.hid (fun w' h => by
    have := get_any _ xs w' (hv.fr h) (by omega)
    rw [hg] at this
    exact this)
  have H3 : Hid (∀ (v : Value) (w' : World), RB w' v body → Calls Try.prog 13 #[.agg (recC k ns tube v)] w' (TwoPost xs 0 w')) := Lib.hid (fun v w' h => by
    have := put_any k ns tube v body w' hl h
    rw [putX, if_pos hc, hc, hp] at this
    exact this)
  have H4 : Hid (∀ (a' : Option Addr) (c' : Nat) (w' : World), Calls Try.prog 14 #[.agg (recC k ns tube (.slice a' body.length c'))] w' fun e w'' => e = .returned (.int .i64 0) ∧ Fr (fun _ => False) w' w'') := Lib.hid (fun a' c' w' => by have := check_any k ns tube a' body.length c' w' hl; rw [hc] at this; exact this)
  have HB : Hid (∀ w' : World, Fr (fun _ => False) w w' → RB w' (.slice a xs.length c) xs) := Lib.hid (fun w' h => hv.fr h)
  obtain ⟨hm1, hm2, hm3, hm4⟩ := forms_more hc (by simpa using h2)
  rw [hp] at hm1 hm2 hm3 hm4
  have H5 : Hid (∀ (v : Value) (w' : World), RB w' v (xs.take (xs.length - 1)) → Calls Try.prog 11 #[v] w' (GetPost ⟨0, List.replicate 16 0, ⟨#[]⟩, [], 102⟩ w')) := Lib.hid (fun v w' h => by
    have := get_any v _ w' h (by rw [List.length_take]; omega)
    rw [hm1] at this
    exact this)
  have H6 : Hid (∀ (v : Value) (w' : World), RB w' v (xs ++ [0]) → Calls Try.prog 11 #[v] w' (GetPost ⟨0, List.replicate 16 0, ⟨#[]⟩, [], 102⟩ w')) := Lib.hid (fun v w' h => by
    have := get_any v _ w' h (by rw [List.length_append]; simp; omega)
    rw [hm2] at this
    exact this)
  have HN := Lib.hid hm4
  have HN9 := Lib.hid hm3
  clear hv hs hg hc hp hm1 hm2
  go_enter Try.func3, Try.ntmps3
  go_wp2_with (first
    | (go_at_call 10; refine (shown_any _).mono ?_; rintro e w1 ⟨rfl, hf1⟩; have HF1 := Lib.hid hf1; clear hf1)
    | (go_at_call 11; refine (H1.out _ HF1.out).mono ?_; rintro e w2 ⟨v2, rfl, hv2, hf2⟩; have HF2 := Lib.hid (HF1.out.trans hf2 (fun _ _ h => h)); have HV2 := Lib.hid hv2.rb; obtain ⟨a2, c2, rfl, -⟩ := hv2.rb; clear hf2 hv2 HF1)
    | ((refine store_guard _ _ _ _ rfl ?_); refine wpList_store_agg _ rfl _ _ 29 rfl w2.heap.size 29 _ (recC k ns tube (.slice a2 body.length c2)) rfl rfl info29s (heap_alloc_eq _ _) rfl (one19 _ _ _ _ _ _) ?_; intro w3 hw3 hf3; have HW3 := Lib.hid hw3; have hf23 : Fr (fun _ => False) w2 w3 := ((Fr.refl (fun _ => False) _).alloc _).trans hf3 (fun x hx h => by omega); have HF3 := Lib.hid (HF2.out.trans hf23 (fun _ _ h => h)); have HV3 := Lib.hid (HV2.out.fr hf23); clear hw3 hf3 hf23)
    | ((refine load_guard _ _ rfl ?_); refine wpList_load_row rfl 29 _ rfl w2.heap.size rfl 29 _ (0, 0) _ HW3.out Try.underlying29 rfl info29s ?_)
    | (go_at_call 13; refine (H3.out _ _ HV3.out).mono ?_; rintro e w4 ⟨v4, rfl, hv4, hf4⟩; have HF4 := Lib.hid (HF3.out.trans hf4 (fun _ _ h => h)); have HW4 := Lib.hid (hf4.get HW3.out id); have HV4 := Lib.hid hv4.rb; obtain ⟨a4, c4, rfl, -⟩ := hv4.rb; clear hf4 hv4)
    | (refine wpList_conv_w (by rfl) _ rfl _ _ rfl HV4.out ?_)
    | (refine wpList_conv_w (by rfl) _ rfl _ _ rfl (HB.out _ HF4.out) ?_)
    | ((refine load_guard _ _ rfl ?_); refine wpList_load_row_w (by rfl) 29 _ rfl w2.heap.size rfl 29 _ (0, 0) _ HW4.out Try.underlying29 rfl info29s ?_)
    | (go_at_call 14; refine (H4.out _ _ _).mono ?_; rintro e w5 ⟨rfl, hf5⟩; have HF5 := Lib.hid (HF4.out.trans hf5 (fun _ _ h => h)); have hw5 := hf5.get HW4.out id; have c5 : w5.cell? ⟨w2.heap.size, 0, none⟩ = some (.int .i64 k) := cell_is hw5 0 rfl; clear hf5 hw5)
    | (refine wpList_cuth rfl _ _ rfl a xs.length c (xs.length - 1) xs rfl (by show Value.int .i64 ((xs.length : Int) - 1) = _; rw [show ((xs.length : Int) - 1) = ((xs.length - 1 : Nat) : Int) by have := HN9.out; omega]) (HB.out _ HF5.out) (by omega) ?_; intro b6 c6 hb6; have HB6 := Lib.hid hb6; clear hb6)
    | (go_at_call 11; refine (H5.out _ _ HB6.out).mono ?_; rintro e w6 ⟨v6, rfl, hv6, hf6⟩; have HF6 := Lib.hid (HF5.out.trans hf6 (fun _ _ h => h)); obtain ⟨a6, d6, rfl, -⟩ := hv6.rb; clear hf6 hv6 HB6)
    | ((refine store_guard _ _ _ _ rfl ?_); refine wpList_store_agg _ rfl _ _ 29 rfl w6.heap.size 29 _ (recC 0 (List.replicate 16 0) ⟨#[]⟩ (.slice a6 0 d6)) rfl rfl info29s (heap_alloc_eq _ _) rfl (one19 _ _ _ _ _ _) ?_; intro w7 hw7 hf7; have HF7 := Lib.hid (HF6.out.trans (((Fr.refl (fun _ => False) _).alloc _).trans hf7 (fun x hx h => by omega)) (fun _ _ h => h)); clear hw7 hf7)
    | (at_builtin; refine wpList_append_Own _ rfl _ _ 22 rfl 5 (.int .u8 0) 1 1 Try.underlying22 info5 rfl (by decide) (.slice (some ⟨w7.heap.size, 0, none⟩) 0 0) 0 [] rfl (Own.empty 5 1 (fun x => w.heap.size ≤ x) w7 HF7.out.size) (.slice a xs.length c) xs.length _ rfl (HB.out _ (HF7.out.alloc _)).src (by have := HN.out; unfold maxLen; omega) (by have := HN.out; omega) ?_; intro v8 w8 hv8 hf8 hn8 _; have HF8 := Lib.hid ((HF7.out.alloc _).trans hf8 (fun x hx h => by simp [Value.ownBlock] at h; have := HF7.out.size; omega)); have HV8 : Hid (OB 5 (fun x => w.heap.size ≤ x) w8 v8 xs) := Lib.hid (by have h := OB.app (xs := []) hv8 (fun _ h => h) (fun x hx => by have := HF7.out.size; simp at hx; omega); exact h); clear hv8 hf8 hn8)
    | (at_builtin; refine wpList_append_Own _ rfl _ _ 22 rfl 5 (.int .u8 0) 1 1 Try.underlying22 info5 rfl (by decide) v8 xs.length _ rfl (HV8.out.alloc _) (.slice (some ⟨w8.heap.size, 0, none⟩) 1 1) 1 _ rfl (src_byte w8 (.int .u8 0) rfl 5) (by have := HN.out; unfold maxLen; omega) (by have := HN.out; omega) ?_; intro v9 w9 hv9 hf9 hn9 _; have HF9 := Lib.hid ((HF8.out.alloc _).trans hf9 (fun x hx h => by have := (HV8.out.block x h).1; omega)); have HV9 : Hid (RB w9 v9 (xs ++ [0])) := Lib.hid (OB.rb (OB.app (ys := [0]) (G := fun x => w.heap.size ≤ x) hv9 (fun _ h => h) (fun x hx => by have := HF8.out.size; simp at hx; omega))); clear hv9 hf9 hn9)
    | (go_at_call 11; refine (H6.out _ _ HV9.out).mono ?_; rintro e w10 ⟨v10, rfl, hv10, hf10⟩; have HF10 := Lib.hid (HF9.out.trans hf10 (fun _ _ h => h)); obtain ⟨a10, c10, rfl, -⟩ := hv10.rb; clear hf10 hv10)
    | ((refine store_guard _ _ _ _ rfl ?_); refine wpList_store_agg _ rfl _ _ 29 rfl w10.heap.size 29 _ (recC 0 (List.replicate 16 0) ⟨#[]⟩ (.slice a10 0 c10)) rfl rfl info29s (heap_alloc_eq _ _) rfl (one19 _ _ _ _ _ _) ?_; intro w11 hw11 hf11; have HF11 := Lib.hid (HF10.out.trans (((Fr.refl (fun _ => False) _).alloc _).trans hf11 (fun x hx h => by omega)) (fun _ _ h => h)); clear hw11 hf11))
  go_ret
  exact ⟨rfl, HF11.out⟩

theorem forms_any (v : Value) (xs : List UInt8) (w : World) (hv : RB w v xs) (hs : xs.length ≤ 140737488351232) :
    Calls Try.prog 3 #[v] w fun e w' => e = .returned (.bool true) ∧ Fr (fun _ => False) w w' := by
  have hv0 := hv
  obtain ⟨a, c, rfl, -⟩ := hv0
  rcases getG_or xs with hg | hg
  · exact forms_no a c xs w hv hs hg
  · obtain ⟨k, ns, tube, body, hg, hc, hp, hl⟩ := put_got hg
    cases h2 : (k == 2)
    · exact forms_one k ns tube body a c xs w hv hs hg hc hp hl h2
    · exact forms_two k ns tube body a c xs w hv hs hg hc hp hl h2

end Go.Proofs.Ytpecbhimnpjkdaa
