/- The document's Get, kind 2. (Printed by rcrefget.py.) -/
import Derived.Test.YtpecbhimnpjkdaaRcRefGet
import Derived.StillTailTactics
namespace Go.Proofs.Ytpecbhimnpjkdaa
open Go.RowKit Go.Sb

set_option maxRecDepth 100000 in
set_option maxHeartbeats 4000000 in
theorem refget_2 (b o c : Nat) (r : List UInt8) (w : World) (hc0 : w.cell? ⟨b, o, none⟩ = some (.int .u8 2)) (hc : ∀ q (h : q < r.length), w.cell? ⟨b, o + (1 + q), none⟩ = some (byte r[q])) (hrb : RB w (.slice (some ⟨b, o, none⟩) (r.length + 1) c) (2 :: r))
    (hm : r.length ≤ 140737488360000) (g : Got) (hg : Hid (g = kindG 2 r)) : Calls Try.prog 25 #[.slice (some ⟨b, o, none⟩) (r.length + 1) c] w (GetPost g w) := by
  have hbl := World.block_lt_of_cell? w _ hc0
  have HC := Lib.hid hc
  have HC0 := Lib.hid hc0
  have HRB := Lib.hid hrb
  have hn0 : ¬ ((r.length : Int) + 1 = 0) := by omega
  have hn1 : (((r.length : Int) + 1) == 0) = false := by simp; omega
  have HN : Hid (∀ w' : World, Fr (fun _ => False) w w' → Calls Try.prog 43 #[.slice (some ⟨b, o, none⟩) (r.length + 1) c, .int .i64 13] w' (RNumsPost r 13 w')) := Lib.hid (fun w' hf => numbers_anyR b o c r 13 w' (fun q h => cell_fr' hf (hc q h)) (by omega) hm)
  have HM : Hid (∀ w' : World, Calls Try.prog 42 #[.int .i64 2] w' fun e w'' => e = .returned (.int .i64 13) ∧ w' = w'') := Lib.hid (fun w' => many_any 2 w' (by decide))
  clear hc hrb
  cases hok : rOk r 13
  · have HGG : Hid (g = noGot) := Lib.hid (by rw [hg.out]; exact kindG_no 2 r (by decide) hok)
    go_enter Try.func25, Try.ntmps25
    go_wp2_with (first
      | ((refine store_guard _ _ _ _ rfl ?_); refine wpList_store_agg _ rfl _ _ 29 rfl (w.heap.size + 1) 29 _ (recC 2 (List.replicate 16 0) ⟨#[]⟩ (.slice none 0 0)) rfl rfl info29s (heap_alloc_at _ _ _ (by simp)) rfl (one19 _ _ _ _ _ _) ?_; intro w3 hw3 hf3; have HF3 : Hid (Fr (fun _ => False) w w3) := Lib.hid ((((Fr.refl _ w).alloc _).alloc _).trans hf3 (fun x hx h => by omega)); have HZ3 : Hid (w3.heap[w.heap.size]? = some (.cells zrec 29 (0, 0))) := Lib.hid (hf3.get ((heap_alloc_lt _ _ _ (by simp)).trans (heap_alloc_eq _ _)) (by simp)); have d0 : w3.cell? ⟨w.heap.size + 1, 0, none⟩ = some (.int .i64 2) := cell_is hw3 0 rfl; have HR3 := Lib.hid hw3; clear hw3 hf3)
      | (go_at_call 42; refine (HM.out _).mono ?_; rintro e w4 ⟨rfl, rfl⟩)
      | (go_at_call 43; refine (HN.out _ HF3.out).mono ?_; rintro e w4 ⟨vl, rfl, hvl, hf4⟩; rw [hok]; have HF4 := Lib.hid (HF3.out.trans hf4 (fun _ _ h => h)); have HZ4 := Lib.hid (hf4.get HZ3.out id); clear hvl hf4)
      | ((refine store_guard _ _ _ _ rfl ?_); refine wpList_store_agg _ rfl _ _ 29 rfl w.heap.size 29 _ zrec rfl rfl zrec_size HZ4.out rfl zrec_one ?_; intro w9 hw9 hf9))
    (try simp only [Exit.inBlock, Exit.then])
    refine bodyPost_ret (results_cell_tmp_row rfl _ _ w.heap.size 29 zrec (0, 0) _ rfl hw9 Try.underlying29 rfl zrec_size) rfl ?_
    rw [show g = noGot from by exact HGG.out]
    exact get_none rfl (HF4.out.trans hf9 (fun x hx h => by omega))
  · obtain ⟨hgy, hrl⟩ := kindG_yes 2 r (by decide) hok
    have hpa : putAt (ofList 2) r (ofList 2).length = [(numAt r 0 : Int), (numAt r 1 : Int), (numAt r 2 : Int), (numAt r 3 : Int), (numAt r 4 : Int), (numAt r 5 : Int), (numAt r 6 : Int), (numAt r 7 : Int), (numAt r 8 : Int), (numAt r 9 : Int), (numAt r 10 : Int), (numAt r 11 : Int), (numAt r 12 : Int), 0, 0, 0] := by kernel_rfl
    rw [hpa, show (ofList 2).length = 13 from rfl] at hgy
    rw [show (ofList 2).length = 13 from rfl] at hrl
    have HDR : Hid (((2 : UInt8) :: r).drop (1 + 8 * 13) = r.drop (8 * 13)) := Lib.hid rfl
    have HG4 : Hid (g = textG 2 [(numAt r 0 : Int), (numAt r 1 : Int), (numAt r 2 : Int), (numAt r 3 : Int), (numAt r 4 : Int), (numAt r 5 : Int), (numAt r 6 : Int), (numAt r 7 : Int), (numAt r 8 : Int), (numAt r 9 : Int), (numAt r 10 : Int), (numAt r 11 : Int), (numAt r 12 : Int), 0, 0, 0] (r.drop (8 * 13))) := Lib.hid (by rw [hg.out, hgy, restG, if_pos rfl])
    clear hpa hgy
    cases htd : r.drop (8 * 13) with
    | nil =>
      have htn : Hid ((r.drop (8 * 13)).length = 0) := Lib.hid (by rw [htd]; rfl)
      have HGG : Hid (g = noGot) := Lib.hid (by rw [HG4.out, htd]; rfl)
      clear htd HG4
      go_enter Try.func25, Try.ntmps25
      go_wp2_with (first
        | ((refine store_guard _ _ _ _ rfl ?_); refine wpList_store_agg _ rfl _ _ 29 rfl (w.heap.size + 1) 29 _ (recC 2 (List.replicate 16 0) ⟨#[]⟩ (.slice none 0 0)) rfl rfl info29s (heap_alloc_at _ _ _ (by simp)) rfl (one19 _ _ _ _ _ _) ?_; intro w3 hw3 hf3; have HF3 : Hid (Fr (fun _ => False) w w3) := Lib.hid ((((Fr.refl _ w).alloc _).alloc _).trans hf3 (fun x hx h => by omega)); have HZ3 : Hid (w3.heap[w.heap.size]? = some (.cells zrec 29 (0, 0))) := Lib.hid (hf3.get ((heap_alloc_lt _ _ _ (by simp)).trans (heap_alloc_eq _ _)) (by simp)); have d0 : w3.cell? ⟨w.heap.size + 1, 0, none⟩ = some (.int .i64 2) := cell_is hw3 0 rfl; have HR3 := Lib.hid hw3; have hlt3 : w.heap.size + 1 < w3.heap.size := lt_of_heap hw3; clear hw3 hf3)
        | (go_at_call 42; refine (HM.out _).mono ?_; rintro e w4 ⟨rfl, rfl⟩)
        | (go_at_call 43; refine (HN.out _ HF3.out).mono ?_; rintro e w4 ⟨vl, rfl, hvl, hf4⟩; obtain ⟨g7, cap7, rfl, hg7, hcp, hcpm, hxc⟩ := rnums_cell (hvl hok) (by decide); rw [hok]; have HF4 := Lib.hid (HF3.out.trans hf4 (fun _ _ h => h)); have HZ4 := Lib.hid (hf4.get HZ3.out id); have hr4 := hf4.get HR3.out id; have HR4 := Lib.hid hr4; have e0 : w4.cell? ⟨w.heap.size + 1, 0, none⟩ = some (.int .i64 2) := cell_is hr4 0 rfl; have y0 := hxc 0 (by omega); have y1 := hxc 1 (by omega); have y2 := hxc 2 (by omega); have y3 := hxc 3 (by omega); have y4 := hxc 4 (by omega); have y5 := hxc 5 (by omega); have y6 := hxc 6 (by omega); have y7 := hxc 7 (by omega); have y8 := hxc 8 (by omega); have y9 := hxc 9 (by omega); have y10 := hxc 10 (by omega); have y11 := hxc 11 (by omega); have y12 := hxc 12 (by omega); have hg7n : g7 ≠ w.heap.size + 1 := (by omega); have hg7m : w.heap.size + 1 ≠ g7 := (by omega); clear hvl hf4 hxc hr4)
        | (go_at_call 44; refine (job_whole (numAt r 0 : Int) (numAt r 1 : Int) (numAt r 2 : Int) (numAt r 3 : Int) (numAt r 4 : Int) (numAt r 5 : Int) (numAt r 6 : Int) (numAt r 7 : Int) (numAt r 8 : Int) (numAt r 9 : Int) (numAt r 10 : Int) (numAt r 11 : Int) (numAt r 12 : Int) g7 cap7 _ hcp hcpm y0 y1 y2 y3 y4 y5 y6 y7 y8 y9 y10 y11 y12).mono ?_; rintro e w5 ⟨rfl, hf5⟩; have HF5 := Lib.hid (HF4.out.trans hf5 (fun _ _ h => h)); have HZ5 := Lib.hid (hf5.get HZ4.out id); have HR5 := Lib.hid (hf5.get HR4.out id); clear hf5)
        | ((refine store_guard _ _ _ _ rfl ?_); refine wpList_store_off rfl 27 _ _ rfl (w.heap.size + 1) 4 29 _ (jobC [(numAt r 0 : Int), (numAt r 1 : Int), (numAt r 2 : Int), (numAt r 3 : Int), (numAt r 4 : Int), (numAt r 5 : Int), (numAt r 6 : Int), (numAt r 7 : Int), (numAt r 8 : Int), (numAt r 9 : Int), (numAt r 10 : Int), (numAt r 11 : Int), (numAt r 12 : Int), 0, 0, 0] ⟨#[]⟩ (.slice none 0 0)) (recC 2 [(numAt r 0 : Int), (numAt r 1 : Int), (numAt r 2 : Int), (numAt r 3 : Int), (numAt r 4 : Int), (numAt r 5 : Int), (numAt r 6 : Int), (numAt r 7 : Int), (numAt r 8 : Int), (numAt r 9 : Int), (numAt r 10 : Int), (numAt r 11 : Int), (numAt r 12 : Int), 0, 0, 0] ⟨#[]⟩ (.slice none 0 0)) rfl rfl HR5.out (by show 4 + 15 ≤ 19; decide) info27s (jobC_one _ _ _ _ _) (by kernel_rfl) ?_; intro w6 hw6 hf6; have HE := Lib.hid hw6; have HFE : Hid (Fr (fun _ => False) w w6) := Lib.hid (HF5.out.trans hf6 (fun x hx h => by omega)); have HZE : Hid (w6.heap[w.heap.size]? = some (.cells zrec 29 (0, 0))) := Lib.hid (hf6.get HZ5.out (by omega)); clear hw6 hf6)
        | (refine wpList_cutl2 rfl _ _ rfl (some ⟨b, o, none⟩) (r.length + 1) c (1 + 8 * 13) (2 :: r) rfl rfl HRB.out (by omega) ?_; intro b' c' hb'; rw [HDR.out] at hb' ⊢; rw [htn.out] at hb' ⊢; clear hb')
        | ((refine store_guard _ _ _ _ rfl ?_); refine wpList_store_agg _ rfl _ _ 29 rfl w.heap.size 29 _ zrec rfl rfl zrec_size HZE.out rfl zrec_one ?_; intro w9 hw9 hf9))
      (try simp only [Exit.inBlock, Exit.then])
      refine bodyPost_ret (results_cell_tmp_row rfl _ _ w.heap.size 29 zrec (0, 0) _ rfl hw9 Try.underlying29 rfl zrec_size) rfl ?_
      rw [show g = noGot from by exact HGG.out]
      exact get_none rfl (HFE.out.trans hf9 (fun x hx h => by omega))
    | cons y u =>
      have HTE := Lib.hid htd
      have htn2 : Hid ((r.drop (8 * 13)).length = u.length + 1) := Lib.hid (by rw [htd]; rfl)
      have htl2 : (r.drop (8 * 13)).length ≤ 140737488360000 := by rw [List.length_drop]; omega
      generalize htn0 : (r.drop (8 * 13)).length = tn at *
      have htn := Lib.hid htn0
      have hyl : y.toNat < 256 := y.toNat_lt
      have hyw : IntKind.i64.wrap (y.toNat : Int) = (y.toNat : Int) := by rw [IntKind.wrap_i64]; omega
      have htz : ¬ tn = 0 := by have := htn2.out; omega
      clear htd htn0
      by_cases hsy : u.length < y.toNat
      · have HGG : Hid (g = noGot) := Lib.hid (by rw [HG4.out, HTE.out, textG, if_pos hsy])
        have hsy' : (tn : Int) < 1 + (y.toNat : Int) := by have := htn2.out; omega
        clear hsy HG4
        go_enter Try.func25, Try.ntmps25
        go_wp2_with (first
          | ((refine store_guard _ _ _ _ rfl ?_); refine wpList_store_agg _ rfl _ _ 29 rfl (w.heap.size + 1) 29 _ (recC 2 (List.replicate 16 0) ⟨#[]⟩ (.slice none 0 0)) rfl rfl info29s (heap_alloc_at _ _ _ (by simp)) rfl (one19 _ _ _ _ _ _) ?_; intro w3 hw3 hf3; have HF3 : Hid (Fr (fun _ => False) w w3) := Lib.hid ((((Fr.refl _ w).alloc _).alloc _).trans hf3 (fun x hx h => by omega)); have HZ3 : Hid (w3.heap[w.heap.size]? = some (.cells zrec 29 (0, 0))) := Lib.hid (hf3.get ((heap_alloc_lt _ _ _ (by simp)).trans (heap_alloc_eq _ _)) (by simp)); have d0 : w3.cell? ⟨w.heap.size + 1, 0, none⟩ = some (.int .i64 2) := cell_is hw3 0 rfl; have HR3 := Lib.hid hw3; have hlt3 : w.heap.size + 1 < w3.heap.size := lt_of_heap hw3; clear hw3 hf3)
          | (go_at_call 42; refine (HM.out _).mono ?_; rintro e w4 ⟨rfl, rfl⟩)
          | (go_at_call 43; refine (HN.out _ HF3.out).mono ?_; rintro e w4 ⟨vl, rfl, hvl, hf4⟩; obtain ⟨g7, cap7, rfl, hg7, hcp, hcpm, hxc⟩ := rnums_cell (hvl hok) (by decide); rw [hok]; have HF4 := Lib.hid (HF3.out.trans hf4 (fun _ _ h => h)); have HZ4 := Lib.hid (hf4.get HZ3.out id); have hr4 := hf4.get HR3.out id; have HR4 := Lib.hid hr4; have e0 : w4.cell? ⟨w.heap.size + 1, 0, none⟩ = some (.int .i64 2) := cell_is hr4 0 rfl; have y0 := hxc 0 (by omega); have y1 := hxc 1 (by omega); have y2 := hxc 2 (by omega); have y3 := hxc 3 (by omega); have y4 := hxc 4 (by omega); have y5 := hxc 5 (by omega); have y6 := hxc 6 (by omega); have y7 := hxc 7 (by omega); have y8 := hxc 8 (by omega); have y9 := hxc 9 (by omega); have y10 := hxc 10 (by omega); have y11 := hxc 11 (by omega); have y12 := hxc 12 (by omega); have hg7n : g7 ≠ w.heap.size + 1 := (by omega); have hg7m : w.heap.size + 1 ≠ g7 := (by omega); clear hvl hf4 hxc hr4)
          | (go_at_call 44; refine (job_whole (numAt r 0 : Int) (numAt r 1 : Int) (numAt r 2 : Int) (numAt r 3 : Int) (numAt r 4 : Int) (numAt r 5 : Int) (numAt r 6 : Int) (numAt r 7 : Int) (numAt r 8 : Int) (numAt r 9 : Int) (numAt r 10 : Int) (numAt r 11 : Int) (numAt r 12 : Int) g7 cap7 _ hcp hcpm y0 y1 y2 y3 y4 y5 y6 y7 y8 y9 y10 y11 y12).mono ?_; rintro e w5 ⟨rfl, hf5⟩; have HF5 := Lib.hid (HF4.out.trans hf5 (fun _ _ h => h)); have HZ5 := Lib.hid (hf5.get HZ4.out id); have HR5 := Lib.hid (hf5.get HR4.out id); clear hf5)
          | ((refine store_guard _ _ _ _ rfl ?_); refine wpList_store_off rfl 27 _ _ rfl (w.heap.size + 1) 4 29 _ (jobC [(numAt r 0 : Int), (numAt r 1 : Int), (numAt r 2 : Int), (numAt r 3 : Int), (numAt r 4 : Int), (numAt r 5 : Int), (numAt r 6 : Int), (numAt r 7 : Int), (numAt r 8 : Int), (numAt r 9 : Int), (numAt r 10 : Int), (numAt r 11 : Int), (numAt r 12 : Int), 0, 0, 0] ⟨#[]⟩ (.slice none 0 0)) (recC 2 [(numAt r 0 : Int), (numAt r 1 : Int), (numAt r 2 : Int), (numAt r 3 : Int), (numAt r 4 : Int), (numAt r 5 : Int), (numAt r 6 : Int), (numAt r 7 : Int), (numAt r 8 : Int), (numAt r 9 : Int), (numAt r 10 : Int), (numAt r 11 : Int), (numAt r 12 : Int), 0, 0, 0] ⟨#[]⟩ (.slice none 0 0)) rfl rfl HR5.out (by show 4 + 15 ≤ 19; decide) info27s (jobC_one _ _ _ _ _) (by kernel_rfl) ?_; intro w6 hw6 hf6; have HE := Lib.hid hw6; have HFE : Hid (Fr (fun _ => False) w w6) := Lib.hid (HF5.out.trans hf6 (fun x hx h => by omega)); have HZE : Hid (w6.heap[w.heap.size]? = some (.cells zrec 29 (0, 0))) := Lib.hid (hf6.get HZ5.out (by omega)); have cy : w6.cell? ⟨bt, ot, none⟩ = some (.int .u8 (y.toNat : Int)) := cell_fr' HFE.out HCY.out; clear hw6 hf6)
          | (refine wpList_cutl2 rfl _ _ rfl (some ⟨b, o, none⟩) (r.length + 1) c (1 + 8 * 13) (2 :: r) rfl rfl HRB.out (by omega) ?_; intro b' c' hb'; rw [HDR.out] at hb' ⊢; rw [htn.out] at hb' ⊢; rw [HTE.out] at hb'; obtain ⟨bt, ot, rfl, hcy⟩ := rb_head hb'; have HBC := Lib.hid hb'; have HCY := Lib.hid hcy; clear hb' hcy)
          | ((refine store_guard _ _ _ _ rfl ?_); refine wpList_store_agg _ rfl _ _ 29 rfl w.heap.size 29 _ zrec rfl rfl zrec_size HZE.out rfl zrec_one ?_; intro w9 hw9 hf9))
        (try simp only [Exit.inBlock, Exit.then])
        refine bodyPost_ret (results_cell_tmp_row rfl _ _ w.heap.size 29 zrec (0, 0) _ rfl hw9 Try.underlying29 rfl zrec_size) rfl ?_
        rw [show g = noGot from by exact HGG.out]
        exact get_none rfl (HFE.out.trans hf9 (fun x hx h => by omega))
      · obtain ⟨bd, hbd⟩ : ∃ bd, u.drop y.toNat = bd := ⟨_, rfl⟩
        obtain ⟨tk, htk⟩ : ∃ tk, u.take y.toNat = tk := ⟨_, rfl⟩
        have HTK : Hid (((y :: u).drop 1).take y.toNat = tk) := Lib.hid htk
        have HG5 : Hid (g = finG 2 [(numAt r 0 : Int), (numAt r 1 : Int), (numAt r 2 : Int), (numAt r 3 : Int), (numAt r 4 : Int), (numAt r 5 : Int), (numAt r 6 : Int), (numAt r 7 : Int), (numAt r 8 : Int), (numAt r 9 : Int), (numAt r 10 : Int), (numAt r 11 : Int), (numAt r 12 : Int), 0, 0, 0] ⟨tk.toArray⟩ bd) := Lib.hid (by rw [HG4.out, HTE.out, textG, if_neg hsy, hbd, htk])
        have hsy' : (1 + (y.toNat : Int)) ≤ (tn : Int) := by have := htn2.out; omega
        have hsy2 : decide ((tn : Int) < 1 + (y.toNat : Int)) = false := by simp only [decide_eq_false_iff_not]; omega
        have HDR2 : Hid ((y :: u).drop (1 + y.toNat) = bd) := Lib.hid (by rw [Nat.add_comm]; exact hbd)
        have HUL : Hid (bd.length ≤ 140737488360000) := Lib.hid (by rw [← hbd, List.length_drop]; have := htn2.out; omega)
        clear hsy HG4 hbd htk
        go_enter Try.func25, Try.ntmps25
        go_wp2_with (first
          | ((refine store_guard _ _ _ _ rfl ?_); refine wpList_store_agg _ rfl _ _ 29 rfl (w.heap.size + 1) 29 _ (recC 2 (List.replicate 16 0) ⟨#[]⟩ (.slice none 0 0)) rfl rfl info29s (heap_alloc_at _ _ _ (by simp)) rfl (one19 _ _ _ _ _ _) ?_; intro w3 hw3 hf3; have HF3 : Hid (Fr (fun _ => False) w w3) := Lib.hid ((((Fr.refl _ w).alloc _).alloc _).trans hf3 (fun x hx h => by omega)); have HZ3 : Hid (w3.heap[w.heap.size]? = some (.cells zrec 29 (0, 0))) := Lib.hid (hf3.get ((heap_alloc_lt _ _ _ (by simp)).trans (heap_alloc_eq _ _)) (by simp)); have d0 : w3.cell? ⟨w.heap.size + 1, 0, none⟩ = some (.int .i64 2) := cell_is hw3 0 rfl; have HR3 := Lib.hid hw3; have hlt3 : w.heap.size + 1 < w3.heap.size := lt_of_heap hw3; clear hw3 hf3)
          | (go_at_call 42; refine (HM.out _).mono ?_; rintro e w4 ⟨rfl, rfl⟩)
          | (go_at_call 43; refine (HN.out _ HF3.out).mono ?_; rintro e w4 ⟨vl, rfl, hvl, hf4⟩; obtain ⟨g7, cap7, rfl, hg7, hcp, hcpm, hxc⟩ := rnums_cell (hvl hok) (by decide); rw [hok]; have HF4 := Lib.hid (HF3.out.trans hf4 (fun _ _ h => h)); have HZ4 := Lib.hid (hf4.get HZ3.out id); have hr4 := hf4.get HR3.out id; have HR4 := Lib.hid hr4; have e0 : w4.cell? ⟨w.heap.size + 1, 0, none⟩ = some (.int .i64 2) := cell_is hr4 0 rfl; have y0 := hxc 0 (by omega); have y1 := hxc 1 (by omega); have y2 := hxc 2 (by omega); have y3 := hxc 3 (by omega); have y4 := hxc 4 (by omega); have y5 := hxc 5 (by omega); have y6 := hxc 6 (by omega); have y7 := hxc 7 (by omega); have y8 := hxc 8 (by omega); have y9 := hxc 9 (by omega); have y10 := hxc 10 (by omega); have y11 := hxc 11 (by omega); have y12 := hxc 12 (by omega); have hg7n : g7 ≠ w.heap.size + 1 := (by omega); have hg7m : w.heap.size + 1 ≠ g7 := (by omega); clear hvl hf4 hxc hr4)
          | (go_at_call 44; refine (job_whole (numAt r 0 : Int) (numAt r 1 : Int) (numAt r 2 : Int) (numAt r 3 : Int) (numAt r 4 : Int) (numAt r 5 : Int) (numAt r 6 : Int) (numAt r 7 : Int) (numAt r 8 : Int) (numAt r 9 : Int) (numAt r 10 : Int) (numAt r 11 : Int) (numAt r 12 : Int) g7 cap7 _ hcp hcpm y0 y1 y2 y3 y4 y5 y6 y7 y8 y9 y10 y11 y12).mono ?_; rintro e w5 ⟨rfl, hf5⟩; have HF5 := Lib.hid (HF4.out.trans hf5 (fun _ _ h => h)); have HZ5 := Lib.hid (hf5.get HZ4.out id); have HR5 := Lib.hid (hf5.get HR4.out id); clear hf5)
          | ((refine store_guard _ _ _ _ rfl ?_); refine wpList_store_off rfl 27 _ _ rfl (w.heap.size + 1) 4 29 _ (jobC [(numAt r 0 : Int), (numAt r 1 : Int), (numAt r 2 : Int), (numAt r 3 : Int), (numAt r 4 : Int), (numAt r 5 : Int), (numAt r 6 : Int), (numAt r 7 : Int), (numAt r 8 : Int), (numAt r 9 : Int), (numAt r 10 : Int), (numAt r 11 : Int), (numAt r 12 : Int), 0, 0, 0] ⟨#[]⟩ (.slice none 0 0)) (recC 2 [(numAt r 0 : Int), (numAt r 1 : Int), (numAt r 2 : Int), (numAt r 3 : Int), (numAt r 4 : Int), (numAt r 5 : Int), (numAt r 6 : Int), (numAt r 7 : Int), (numAt r 8 : Int), (numAt r 9 : Int), (numAt r 10 : Int), (numAt r 11 : Int), (numAt r 12 : Int), 0, 0, 0] ⟨#[]⟩ (.slice none 0 0)) rfl rfl HR5.out (by show 4 + 15 ≤ 19; decide) info27s (jobC_one _ _ _ _ _) (by kernel_rfl) ?_; intro w6 hw6 hf6; have HE := Lib.hid hw6; have HFE : Hid (Fr (fun _ => False) w w6) := Lib.hid (HF5.out.trans hf6 (fun x hx h => by omega)); have HZE : Hid (w6.heap[w.heap.size]? = some (.cells zrec 29 (0, 0))) := Lib.hid (hf6.get HZ5.out (by omega)); have cy : w6.cell? ⟨bt, ot, none⟩ = some (.int .u8 (y.toNat : Int)) := cell_fr' HFE.out HCY.out; have d17 : w6.cell? ⟨w.heap.size + 1, 17, none⟩ = some (.string ⟨#[]⟩) := cell_is hw6 17 rfl; have z17 := frozen_of hw6 17; have hl6 : w.heap.size + 1 < w6.heap.size := lt_of_heap hw6; clear hw6 hf6)
          | (refine wpList_cutl2 rfl _ _ rfl (some ⟨b, o, none⟩) (r.length + 1) c (1 + 8 * 13) (2 :: r) rfl rfl HRB.out (by omega) ?_; intro b' c' hb'; rw [HDR.out] at hb' ⊢; rw [htn.out] at hb' ⊢; rw [HTE.out] at hb'; obtain ⟨bt, ot, rfl, hcy⟩ := rb_head hb'; have HBC := Lib.hid hb'; have HCY := Lib.hid hcy; clear hb' hcy)
          | (refine wpList_cutlh rfl _ _ _ rfl (some ⟨bt, ot, none⟩) tn c' 1 (1 + y.toNat) y.toNat (y :: u) rfl rfl rfl (HBC.out.fr HFE.out) (by omega) (by have := htn2.out; omega) (by omega) ?_; intro b2' c2' hb2; rw [HTK.out] at hb2; have HB2' := Lib.hid hb2; clear hb2)
          | (refine wpList_conv rfl _ rfl _ _ rfl HB2'.out ?_))
        have HEZ : Hid ((w6.setCell ⟨w.heap.size + 1, 17, none⟩ (.string ⟨tk.toArray⟩)).heap[w.heap.size + 1]? = some (.cells (recC 2 [(numAt r 0 : Int), (numAt r 1 : Int), (numAt r 2 : Int), (numAt r 3 : Int), (numAt r 4 : Int), (numAt r 5 : Int), (numAt r 6 : Int), (numAt r 7 : Int), (numAt r 8 : Int), (numAt r 9 : Int), (numAt r 10 : Int), (numAt r 11 : Int), (numAt r 12 : Int), 0, 0, 0] ⟨tk.toArray⟩ (.slice none 0 0)) 29 (0, 0))) := Lib.hid (heap_setCell_eq 17 _ HE.out)
        have HFZ : Hid (Fr (fun _ => False) w (w6.setCell ⟨w.heap.size + 1, 17, none⟩ (.string ⟨tk.toArray⟩))) := Lib.hid (Fr.setCell (p := ⟨w.heap.size + 1, 17, none⟩) HFE.out (.inr (by simp)) _)
        have HZZ : Hid ((w6.setCell ⟨w.heap.size + 1, 17, none⟩ (.string ⟨tk.toArray⟩)).heap[w.heap.size]? = some (.cells zrec 29 (0, 0))) := Lib.hid ((heap_setCell_ne _ _ _ _ (by simp)).trans HZE.out)
        clear d17 z17 cy HB2'
        generalize (w6.setCell ⟨w.heap.size + 1, 17, none⟩ (.string ⟨tk.toArray⟩)) = wz at *
        have e18 : wz.cell? ⟨w.heap.size + 1, 18, none⟩ = some (.slice none 0 0) := cell_is HEZ.out 18 rfl
        have hlz : w.heap.size + 1 < wz.heap.size := lt_of_heap HEZ.out
        have hb9 := (HBC.out.fr HFZ.out).cutl (1 + y.toNat) (by have := htn2.out; omega)
        have hrun := fun w' => sub_l w' (some ⟨bt, ot, none⟩) tn c' (1 + y.toNat) (by omega)
        rw [HDR2.out] at hb9
        have htb : tn - (1 + y.toNat) = bd.length := by rw [← HDR2.out, List.length_drop, List.length_cons]; have := htn2.out; omega
        rw [htb] at hb9 hrun
        obtain ⟨a9, ha9⟩ : ∃ a9, (if c' = 1 + y.toNat then some ⟨bt, ot, none⟩ else Option.map (fun x : Addr => x.add (1 + y.toNat)) (some ⟨bt, ot, none⟩)) = a9 := ⟨_, rfl⟩
        obtain ⟨c9, hc9⟩ : ∃ c9, c' - (1 + y.toNat) = c9 := ⟨_, rfl⟩
        rw [ha9, hc9] at hb9 hrun
        have hsl : ∀ w' : World, (Instr.sliceAt 22 (.slice (some ⟨bt, ot, none⟩) tn c') (some (.int .i64 (1 + (y.toNat : Int)))) none none).run Try.prog w' = .ok (.slice a9 bd.length c9) w' := fun w' => by have h := hrun w'; rw [show ((1 + y.toNat : Nat) : Int) = 1 + (y.toNat : Int) by omega] at h; exact h
        have HRZ := Lib.hid hb9
        clear hb9 hrun ha9 hc9 htb
        by_cases hc0 : checkE 2 [(numAt r 0 : Int), (numAt r 1 : Int), (numAt r 2 : Int), (numAt r 3 : Int), (numAt r 4 : Int), (numAt r 5 : Int), (numAt r 6 : Int), (numAt r 7 : Int), (numAt r 8 : Int), (numAt r 9 : Int), (numAt r 10 : Int), (numAt r 11 : Int), (numAt r 12 : Int), 0, 0, 0] ⟨tk.toArray⟩ bd.length = 0
        · have HG6 : Hid (g = ⟨2, [(numAt r 0 : Int), (numAt r 1 : Int), (numAt r 2 : Int), (numAt r 3 : Int), (numAt r 4 : Int), (numAt r 5 : Int), (numAt r 6 : Int), (numAt r 7 : Int), (numAt r 8 : Int), (numAt r 9 : Int), (numAt r 10 : Int), (numAt r 11 : Int), (numAt r 12 : Int), 0, 0, 0], ⟨tk.toArray⟩, bd, 0⟩) := Lib.hid (by rw [HG5.out, finG, if_pos hc0])
          go_still_tail 6, (by kernel_rfl)
          change wpList _ _ _ _ _ wz.drew
          have HFD : Hid (Fr (fun _ => False) wz wz.drew) := Lib.hid (Fr.refl _ _).drew
          have HRD := Lib.hid (HRZ.out.fr HFD.out)
          go_wp2_with (first
            | (at_builtin; refine wpList_append_Own _ rfl _ _ 22 rfl 5 (.int .u8 0) 1 1 Try.underlying22 info5 rfl (by decide) (.slice none 0 0) 0 [] rfl (Own.nil 5 1 (fun x => wz.heap.size ≤ x) _) (.slice a9 bd.length c9) bd.length (bd.map byte) rfl HRD.out.src (by have := HUL.out; unfold maxLen; omega) (by have := HUL.out; omega) ?_; intro v20 w20 hv20 hf20 hn20 _; have hf : Fr (fun _ => False) wz w20 := HFD.out.trans hf20 (fun x hx h => by cases h); have hg20 := hf.get HEZ.out id; have f18 : w20.cell? ⟨w.heap.size + 1, 18, none⟩ = some (.slice none 0 0) := cell_is hg20 18 rfl; have y18 := frozen_of hg20 18; have hlt20 : w.heap.size + 1 < w20.heap.size := lt_of_heap hg20; have HF20 := Lib.hid (HFZ.out.trans hf (fun _ _ h => h)); have HZ20 := Lib.hid (hf.get HZZ.out id); have HV20 : Hid (OB 5 (fun x => wz.heap.size ≤ x) w20 v20 bd) := Lib.hid (by have h := OB.app (xs := []) hv20 (fun _ h => h) (fun x hx => hx); exact h); obtain ⟨a20, c20, rfl, -⟩ := OB.rb HV20.out; have HES : Hid ((w20.setCell ⟨w.heap.size + 1, 18, none⟩ (.slice a20 bd.length c20)).heap[w.heap.size + 1]? = some (.cells (recC 2 [(numAt r 0 : Int), (numAt r 1 : Int), (numAt r 2 : Int), (numAt r 3 : Int), (numAt r 4 : Int), (numAt r 5 : Int), (numAt r 6 : Int), (numAt r 7 : Int), (numAt r 8 : Int), (numAt r 9 : Int), (numAt r 10 : Int), (numAt r 11 : Int), (numAt r 12 : Int), 0, 0, 0] ⟨tk.toArray⟩ (.slice a20 bd.length c20)) 29 (0, 0))) := Lib.hid (heap_setCell_eq 18 _ hg20); clear hv20 hf20 hn20 hg20 hf)
            | ((refine load_guard _ _ rfl ?_); refine wpList_load_row_w (by rfl) 29 _ rfl (w.heap.size + 1) rfl 29 (recC 2 [(numAt r 0 : Int), (numAt r 1 : Int), (numAt r 2 : Int), (numAt r 3 : Int), (numAt r 4 : Int), (numAt r 5 : Int), (numAt r 6 : Int), (numAt r 7 : Int), (numAt r 8 : Int), (numAt r 9 : Int), (numAt r 10 : Int), (numAt r 11 : Int), (numAt r 12 : Int), 0, 0, 0] ⟨tk.toArray⟩ (.slice a20 bd.length c20)) (0, 0) _ HES.out Try.underlying29 rfl info29s ?_)
            | (go_at_call 20; refine (check_anyR 2 [(numAt r 0 : Int), (numAt r 1 : Int), (numAt r 2 : Int), (numAt r 3 : Int), (numAt r 4 : Int), (numAt r 5 : Int), (numAt r 6 : Int), (numAt r 7 : Int), (numAt r 8 : Int), (numAt r 9 : Int), (numAt r 10 : Int), (numAt r 11 : Int), (numAt r 12 : Int), 0, 0, 0] ⟨tk.toArray⟩ a20 bd.length c20 _ rfl).mono ?_; rintro e w8 ⟨rfl, hf8⟩; have HW8 := Lib.hid (hf8.get HES.out id); have HFA : Hid (Fr (fun _ => False) w w8) := Lib.hid ((HF20.out.setCell (p := ⟨w.heap.size + 1, 18, none⟩) (.inr (by simp)) _).trans hf8 (fun _ _ h => h)); have HBA := Lib.hid (hf8.get ((heap_setCell_ne _ _ _ _ (by simp)).trans HZ20.out) id); have HOC : Hid (OB 5 (fun x => w.heap.size ≤ x) w8 (.slice a20 bd.length c20) bd) := Lib.hid ((HV20.out.mono (fun x _ h => by omega)).of (fun k hk hb => (hf8.block k (by simpa using hk) id).trans (heap_setCell_ne _ _ _ _ (fun he => by have h9 := (Own.block HV20.out k hb).1; simp only at he; omega)))); clear hf8; rw [hc0])
            | ((refine load_guard _ _ rfl ?_); refine wpList_load_row rfl 29 _ rfl (w.heap.size + 1) rfl 29 _ (0, 0) _ HW8.out Try.underlying29 rfl info29s ?_)
            | ((refine store_guard _ _ _ _ rfl ?_); refine wpList_store_agg _ rfl _ _ 29 rfl w.heap.size 29 _ (recC 2 [(numAt r 0 : Int), (numAt r 1 : Int), (numAt r 2 : Int), (numAt r 3 : Int), (numAt r 4 : Int), (numAt r 5 : Int), (numAt r 6 : Int), (numAt r 7 : Int), (numAt r 8 : Int), (numAt r 9 : Int), (numAt r 10 : Int), (numAt r 11 : Int), (numAt r 12 : Int), 0, 0, 0] ⟨tk.toArray⟩ (.slice a20 bd.length c20)) rfl rfl info29s HBA.out rfl (one19 _ _ _ _ _ _) ?_; intro w9 hw9 hf9))
          (try simp only [Exit.inBlock, Exit.then])
          refine bodyPost_ret (results_cell_tmp_row rfl _ _ w.heap.size 29 _ (0, 0) _ rfl hw9 Try.underlying29 rfl info29s) rfl ?_
          rw [HG6.out]
          exact ⟨_, rfl, HOC.out.of (fun k hk hb => hf9.block k hk (fun he => by have := ob_cells HOC.out hb; rw [he, HBA.out] at this; simp at this)), HFA.out.trans hf9 (fun x hx h => by omega)⟩
        · have HGG : Hid (g = noGot) := Lib.hid (by rw [HG5.out, finG, if_neg hc0])
          have hc1 : (checkE 2 [(numAt r 0 : Int), (numAt r 1 : Int), (numAt r 2 : Int), (numAt r 3 : Int), (numAt r 4 : Int), (numAt r 5 : Int), (numAt r 6 : Int), (numAt r 7 : Int), (numAt r 8 : Int), (numAt r 9 : Int), (numAt r 10 : Int), (numAt r 11 : Int), (numAt r 12 : Int), 0, 0, 0] ⟨tk.toArray⟩ bd.length == 0) = false := by simpa using hc0
          clear hc0
          generalize hcc : checkE 2 [(numAt r 0 : Int), (numAt r 1 : Int), (numAt r 2 : Int), (numAt r 3 : Int), (numAt r 4 : Int), (numAt r 5 : Int), (numAt r 6 : Int), (numAt r 7 : Int), (numAt r 8 : Int), (numAt r 9 : Int), (numAt r 10 : Int), (numAt r 11 : Int), (numAt r 12 : Int), 0, 0, 0] ⟨tk.toArray⟩ bd.length = ce at *
          have HCC := Lib.hid hcc
          clear hcc
          go_still_tail 6, (by kernel_rfl)
          change wpList _ _ _ _ _ wz.drew
          have HFD : Hid (Fr (fun _ => False) wz wz.drew) := Lib.hid (Fr.refl _ _).drew
          have HRD := Lib.hid (HRZ.out.fr HFD.out)
          go_wp2_with (first
            | (at_builtin; refine wpList_append_Own _ rfl _ _ 22 rfl 5 (.int .u8 0) 1 1 Try.underlying22 info5 rfl (by decide) (.slice none 0 0) 0 [] rfl (Own.nil 5 1 (fun x => wz.heap.size ≤ x) _) (.slice a9 bd.length c9) bd.length (bd.map byte) rfl HRD.out.src (by have := HUL.out; unfold maxLen; omega) (by have := HUL.out; omega) ?_; intro v20 w20 hv20 hf20 hn20 _; have hf : Fr (fun _ => False) wz w20 := HFD.out.trans hf20 (fun x hx h => by cases h); have hg20 := hf.get HEZ.out id; have f18 : w20.cell? ⟨w.heap.size + 1, 18, none⟩ = some (.slice none 0 0) := cell_is hg20 18 rfl; have y18 := frozen_of hg20 18; have hlt20 : w.heap.size + 1 < w20.heap.size := lt_of_heap hg20; have HF20 := Lib.hid (HFZ.out.trans hf (fun _ _ h => h)); have HZ20 := Lib.hid (hf.get HZZ.out id); have HV20 : Hid (OB 5 (fun x => wz.heap.size ≤ x) w20 v20 bd) := Lib.hid (by have h := OB.app (xs := []) hv20 (fun _ h => h) (fun x hx => hx); exact h); obtain ⟨a20, c20, rfl, -⟩ := OB.rb HV20.out; have HES : Hid ((w20.setCell ⟨w.heap.size + 1, 18, none⟩ (.slice a20 bd.length c20)).heap[w.heap.size + 1]? = some (.cells (recC 2 [(numAt r 0 : Int), (numAt r 1 : Int), (numAt r 2 : Int), (numAt r 3 : Int), (numAt r 4 : Int), (numAt r 5 : Int), (numAt r 6 : Int), (numAt r 7 : Int), (numAt r 8 : Int), (numAt r 9 : Int), (numAt r 10 : Int), (numAt r 11 : Int), (numAt r 12 : Int), 0, 0, 0] ⟨tk.toArray⟩ (.slice a20 bd.length c20)) 29 (0, 0))) := Lib.hid (heap_setCell_eq 18 _ hg20); clear hv20 hf20 hn20 hg20 hf)
            | ((refine load_guard _ _ rfl ?_); refine wpList_load_row_w (by rfl) 29 _ rfl (w.heap.size + 1) rfl 29 (recC 2 [(numAt r 0 : Int), (numAt r 1 : Int), (numAt r 2 : Int), (numAt r 3 : Int), (numAt r 4 : Int), (numAt r 5 : Int), (numAt r 6 : Int), (numAt r 7 : Int), (numAt r 8 : Int), (numAt r 9 : Int), (numAt r 10 : Int), (numAt r 11 : Int), (numAt r 12 : Int), 0, 0, 0] ⟨tk.toArray⟩ (.slice a20 bd.length c20)) (0, 0) _ HES.out Try.underlying29 rfl info29s ?_)
            | (go_at_call 20; refine (check_anyR 2 [(numAt r 0 : Int), (numAt r 1 : Int), (numAt r 2 : Int), (numAt r 3 : Int), (numAt r 4 : Int), (numAt r 5 : Int), (numAt r 6 : Int), (numAt r 7 : Int), (numAt r 8 : Int), (numAt r 9 : Int), (numAt r 10 : Int), (numAt r 11 : Int), (numAt r 12 : Int), 0, 0, 0] ⟨tk.toArray⟩ a20 bd.length c20 _ rfl).mono ?_; rintro e w8 ⟨rfl, hf8⟩; have HW8 := Lib.hid (hf8.get HES.out id); have HFA : Hid (Fr (fun _ => False) w w8) := Lib.hid ((HF20.out.setCell (p := ⟨w.heap.size + 1, 18, none⟩) (.inr (by simp)) _).trans hf8 (fun _ _ h => h)); have HBA := Lib.hid (hf8.get ((heap_setCell_ne _ _ _ _ (by simp)).trans HZ20.out) id); have HOC : Hid (OB 5 (fun x => w.heap.size ≤ x) w8 (.slice a20 bd.length c20) bd) := Lib.hid ((HV20.out.mono (fun x _ h => by omega)).of (fun k hk hb => (hf8.block k (by simpa using hk) id).trans (heap_setCell_ne _ _ _ _ (fun he => by have h9 := (Own.block HV20.out k hb).1; simp only at he; omega)))); clear hf8; rw [HCC.out])
            | ((refine store_guard _ _ _ _ rfl ?_); refine wpList_store_agg _ rfl _ _ 29 rfl w.heap.size 29 _ zrec rfl rfl zrec_size HBA.out rfl zrec_one ?_; intro w9 hw9 hf9))
          (try simp only [Exit.inBlock, Exit.then])
          refine bodyPost_ret (results_cell_tmp_row rfl _ _ w.heap.size 29 zrec (0, 0) _ rfl hw9 Try.underlying29 rfl zrec_size) rfl ?_
          rw [show g = noGot from by exact HGG.out]
          exact get_none rfl (HFA.out.trans hf9 (fun x hx h => by omega))

end Go.Proofs.Ytpecbhimnpjkdaa
