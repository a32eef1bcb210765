/- The document's Get, walked. (Printed by rcrefget.py.) -/
import Derived.Test.YtpecbhimnpjkdaaRcRefJobW
import Derived.Test.YtpecbhimnpjkdaaRcRefGet0
import Derived.Test.YtpecbhimnpjkdaaRcRefCheck
import Derived.Test.YtpecbhimnpjkdaaRcGet
namespace Go.Proofs.Ytpecbhimnpjkdaa
open Go.RowKit Go.Sb

theorem rnums_cell {w : World} {F : Nat → Prop} {v : Value} {r : List UInt8} {n : Nat} (h : Own 3 1 F w v n (numsR r n)) (h0 : 0 < n) : ∃ g cap, v = .slice (some ⟨g, 0, none⟩) n cap ∧ F g ∧ n ≤ cap ∧ cap ≤ maxLen ∧ ∀ j, j < n → w.cell? ⟨g, j, none⟩ = some (.int .i64 (numAt r j : Int)) := by
  rcases h.shape with ⟨_, h1, _⟩ | ⟨g, cap, hv, h1, h2, hb⟩
  · omega
  · refine ⟨g, cap, hv, (h.block g hb).1, h1, h2, fun j hj => h.cell hb ?_⟩
    unfold numsR
    rw [List.getElem?_map, List.getElem?_range hj]
    rfl

theorem wpList_store_off {w : World} {ops : Array Oper} {rest : List Oper} {op : Oper} {a : Act} {Q : Exit → Act → World → Prop} (hgd : op.guard = none) (ty : TypeId) (x y : Operand) (ho : op.op = .store ty x y)
    (g o : Nat) (T : TypeId) (old cs new : Array Value) (hx : a.eval x = .pointer (some ⟨g, o, none⟩)) (hy : a.eval y = .agg cs) (hg : w.heap[g]? = some (.cells old T (0, 0))) (hl : o + cs.size ≤ old.size)
    (hi : (Try.prog.info? ty).map (·.size) = some cs.size) (h1 : ∀ v ∈ cs.toList, v.oneCell' = true) (hnew : (old.toList.take o ++ cs.toList ++ old.toList.drop (o + cs.size)).toArray = new)
    (h : ∀ w', w'.heap[g]? = some (.cells new T (0, 0)) → Fr (fun k => k = g) w w' → wpList Try.prog ops Q rest (a.put op.dst undef) w') : wpList Try.prog ops Q (op :: rest) a w :=
  wpList_plain hgd fun _ hK => wp_store_off ty x y ho g o T old cs new hx hy hg hl hi h1 hnew (fun w' h2 h3 => hK _ _ (h w' h2 h3))

theorem wpList_cutl2 {w w0 : World} {ops : Array Oper} {rest : List Oper} {o : Oper} {a : Act} {Q : Exit → Act → World → Prop} (hg : o.guard = none) (so lo : Operand) (hop : o.op = .slice 22 so (some lo) none none) (b : Option Addr) (n c l : Nat) (xs : List UInt8) (hs : a.eval so = .slice b n c) (hlo : a.eval lo = .int .i64 (l : Int)) (hb : RB w0 (.slice b n c) xs) (h : l ≤ n)
    (hK : ∀ b' c', RB w0 (.slice b' (xs.drop l).length c') (xs.drop l) → wpList Try.prog ops Q rest (a.put o.dst (.slice b' (xs.drop l).length c')) w) : wpList Try.prog ops Q (o :: rest) a w := by
  refine wpList_plain hg fun K' hK' => ?_
  have hrun := sub_l w b n c l h
  have hb2 := hb.cutl l h
  obtain ⟨a', c', he, h1, h2, h3⟩ := hb
  cases he
  unfold Oper.wp
  simp [execOp, hop, hs, hlo, hrun, Result.andThen]
  rw [← List.length_drop] at hb2 ⊢
  exact hK' _ _ (hK _ _ hb2)

theorem kindG_no (k : Int) (r : List UInt8) (hk : Kind k) (h : rOk r (ofList k).length = false) : kindG k r = noGot := by
  have h0 : 0 < (ofList k).length := by rcases hk with rfl | rfl | rfl | rfl <;> decide
  rw [rOk_nums r _ h0] at h
  unfold kindG
  rw [if_neg (fun hh => hh hk)]
  split
  · rfl
  · rename_i hl
    rw [decide_eq_true (by omega), Bool.true_and] at h
    rw [if_pos h]

theorem kindG_yes (k : Int) (r : List UInt8) (hk : Kind k) (h : rOk r (ofList k).length = true) : kindG k r = restG k (putAt (ofList k) r (ofList k).length) (r.drop (8 * (ofList k).length)) ∧ 8 * (ofList k).length ≤ r.length := by
  have h0 : 0 < (ofList k).length := by rcases hk with rfl | rfl | rfl | rfl <;> decide
  rw [rOk_nums r _ h0, Bool.and_eq_true, decide_eq_true_eq] at h
  unfold kindG
  rw [if_neg (fun hh => hh hk), if_neg (by omega), if_neg (by rw [h.2]; decide)]
  exact ⟨rfl, h.1⟩

set_option maxRecDepth 100000 in
set_option maxHeartbeats 4000000 in
theorem refget_1 (b o c : Nat) (r : List UInt8) (w : World) (hc0 : w.cell? ⟨b, o, none⟩ = some (.int .u8 1)) (hc : ∀ q (h : q < r.length), w.cell? ⟨b, o + (1 + q), none⟩ = some (byte r[q])) (hrb : RB w (.slice (some ⟨b, o, none⟩) (r.length + 1) c) (1 :: r))
    (hm : r.length ≤ 140737488360000) (g : Got) (hg : Hid (g = kindG 1 r)) : Calls Try.prog 25 #[.slice (some ⟨b, o, none⟩) (r.length + 1) c] w (GetPost g w) := by
  have hbl := World.block_lt_of_cell? w _ hc0
  have HC := Lib.hid hc
  have HC0 := Lib.hid hc0
  have HRB := Lib.hid hrb
  have hn0 : ¬ ((r.length : Int) + 1 = 0) := by omega
  have hn1 : (((r.length : Int) + 1) == 0) = false := by simp; omega
  have HN : Hid (∀ w' : World, Fr (fun _ => False) w w' → Calls Try.prog 43 #[.slice (some ⟨b, o, none⟩) (r.length + 1) c, .int .i64 2] w' (RNumsPost r 2 w')) := Lib.hid (fun w' hf => numbers_anyR b o c r 2 w' (fun q h => cell_fr' hf (hc q h)) (by omega) hm)
  have HM : Hid (∀ w' : World, Calls Try.prog 42 #[.int .i64 1] w' fun e w'' => e = .returned (.int .i64 2) ∧ w' = w'') := Lib.hid (fun w' => many_any 1 w' (by decide))
  clear hc hrb
  cases hok : rOk r 2
  · have HGG : Hid (g = noGot) := Lib.hid (by rw [hg.out]; exact kindG_no 1 r (by decide) hok)
    go_enter Try.func25, Try.ntmps25
    go_wp2_with (first
      | ((refine store_guard _ _ _ _ rfl ?_); refine wpList_store_agg _ rfl _ _ 29 rfl (w.heap.size + 1) 29 _ (recC 1 (List.replicate 16 0) ⟨#[]⟩ (.slice none 0 0)) rfl rfl info29s (heap_alloc_at _ _ _ (by simp)) rfl (one19 _ _ _ _ _ _) ?_; intro w3 hw3 hf3; have HF3 : Hid (Fr (fun _ => False) w w3) := Lib.hid ((((Fr.refl _ w).alloc _).alloc _).trans hf3 (fun x hx h => by omega)); have HZ3 : Hid (w3.heap[w.heap.size]? = some (.cells zrec 29 (0, 0))) := Lib.hid (hf3.get ((heap_alloc_lt _ _ _ (by simp)).trans (heap_alloc_eq _ _)) (by simp)); have d0 : w3.cell? ⟨w.heap.size + 1, 0, none⟩ = some (.int .i64 1) := cell_is hw3 0 rfl; have HR3 := Lib.hid hw3; clear hw3 hf3)
      | (go_at_call 42; refine (HM.out _).mono ?_; rintro e w4 ⟨rfl, rfl⟩)
      | (go_at_call 43; refine (HN.out _ HF3.out).mono ?_; rintro e w4 ⟨vl, rfl, hvl, hf4⟩; rw [hok]; have HF4 := Lib.hid (HF3.out.trans hf4 (fun _ _ h => h)); have HZ4 := Lib.hid (hf4.get HZ3.out id); clear hvl hf4)
      | ((refine store_guard _ _ _ _ rfl ?_); refine wpList_store_agg _ rfl _ _ 29 rfl w.heap.size 29 _ zrec rfl rfl zrec_size HZ4.out rfl zrec_one ?_; intro w9 hw9 hf9))
    (try simp only [Exit.inBlock, Exit.then])
    refine bodyPost_ret (results_cell_tmp_row rfl _ _ w.heap.size 29 zrec (0, 0) _ rfl hw9 Try.underlying29 rfl zrec_size) rfl ?_
    rw [show g = noGot from by exact HGG.out]
    exact get_none rfl (HF4.out.trans hf9 (fun x hx h => by omega))
  · obtain ⟨hgy, hrl⟩ := kindG_yes 1 r (by decide) hok
    have hpa : putAt (ofList 1) r (ofList 1).length = [0, 0, 0, 0, 0, 0, 0, 0, 0, 0, 0, 0, 0, (numAt r 0 : Int), (numAt r 1 : Int), 0] := by kernel_rfl
    rw [hpa, show (ofList 1).length = 2 from rfl] at hgy
    rw [show (ofList 1).length = 2 from rfl] at hrl
    have HDR : Hid (((1 : UInt8) :: r).drop (1 + 8 * 2) = r.drop (8 * 2)) := Lib.hid rfl
    have HG4 : Hid (g = if r.drop (8 * 2) = [] then finG 1 [0, 0, 0, 0, 0, 0, 0, 0, 0, 0, 0, 0, 0, (numAt r 0 : Int), (numAt r 1 : Int), 0] ⟨#[]⟩ [] else noGot) := Lib.hid (by rw [hg.out, hgy, restG, if_neg (by decide)])
    clear hpa hgy
    by_cases ht0 : r.drop (8 * 2) = []
    · have htn : Hid ((r.drop (8 * 2)).length = 0) := Lib.hid (by rw [ht0]; rfl)
      have HG5 : Hid (g = finG 1 [0, 0, 0, 0, 0, 0, 0, 0, 0, 0, 0, 0, 0, (numAt r 0 : Int), (numAt r 1 : Int), 0] ⟨#[]⟩ []) := Lib.hid (by rw [HG4.out, if_pos ht0])
      clear ht0 HG4
      by_cases hc9 : checkE 1 [0, 0, 0, 0, 0, 0, 0, 0, 0, 0, 0, 0, 0, (numAt r 0 : Int), (numAt r 1 : Int), 0] ⟨#[]⟩ 0 = 0
      · have HG6 : Hid (g = ⟨1, [0, 0, 0, 0, 0, 0, 0, 0, 0, 0, 0, 0, 0, (numAt r 0 : Int), (numAt r 1 : Int), 0], ⟨#[]⟩, [], 0⟩) := Lib.hid (by rw [HG5.out, finG, List.length_nil, if_pos hc9])
        go_enter Try.func25, Try.ntmps25
        go_wp2_with (first
          | ((refine store_guard _ _ _ _ rfl ?_); refine wpList_store_agg _ rfl _ _ 29 rfl (w.heap.size + 1) 29 _ (recC 1 (List.replicate 16 0) ⟨#[]⟩ (.slice none 0 0)) rfl rfl info29s (heap_alloc_at _ _ _ (by simp)) rfl (one19 _ _ _ _ _ _) ?_; intro w3 hw3 hf3; have HF3 : Hid (Fr (fun _ => False) w w3) := Lib.hid ((((Fr.refl _ w).alloc _).alloc _).trans hf3 (fun x hx h => by omega)); have HZ3 : Hid (w3.heap[w.heap.size]? = some (.cells zrec 29 (0, 0))) := Lib.hid (hf3.get ((heap_alloc_lt _ _ _ (by simp)).trans (heap_alloc_eq _ _)) (by simp)); have d0 : w3.cell? ⟨w.heap.size + 1, 0, none⟩ = some (.int .i64 1) := cell_is hw3 0 rfl; have HR3 := Lib.hid hw3; have hlt3 : w.heap.size + 1 < w3.heap.size := lt_of_heap hw3; clear hw3 hf3)
          | (go_at_call 42; refine (HM.out _).mono ?_; rintro e w4 ⟨rfl, rfl⟩)
          | (go_at_call 43; refine (HN.out _ HF3.out).mono ?_; rintro e w4 ⟨vl, rfl, hvl, hf4⟩; obtain ⟨g7, cap7, rfl, hg7, hcp, hcpm, hxc⟩ := rnums_cell (hvl hok) (by decide); rw [hok]; have HF4 := Lib.hid (HF3.out.trans hf4 (fun _ _ h => h)); have HZ4 := Lib.hid (hf4.get HZ3.out id); have hr4 := hf4.get HR3.out id; have HR4 := Lib.hid hr4; have e0 : w4.cell? ⟨w.heap.size + 1, 0, none⟩ = some (.int .i64 1) := cell_is hr4 0 rfl; have q1 : w4.cell? ⟨w.heap.size + 1, 1, none⟩ = some (.int .i64 0) := cell_is hr4 1 rfl; have z1 := frozen_of hr4 1; have q2 : w4.cell? ⟨w.heap.size + 1, 2, none⟩ = some (.int .i64 0) := cell_is hr4 2 rfl; have z2 := frozen_of hr4 2; have y0 := hxc 0 (by omega); have y1 := hxc 1 (by omega); have hg7n : g7 ≠ w.heap.size + 1 := (by omega); have hg7m : w.heap.size + 1 ≠ g7 := (by omega); have HE : Hid (((w4.setCell ⟨w.heap.size + 1, 1, none⟩ (.int .i64 (numAt r 0 : Int))).setCell ⟨w.heap.size + 1, 2, none⟩ (.int .i64 (numAt r 1 : Int))).heap[w.heap.size + 1]? = some (.cells (recC 1 [0, 0, 0, 0, 0, 0, 0, 0, 0, 0, 0, 0, 0, (numAt r 0 : Int), (numAt r 1 : Int), 0] ⟨#[]⟩ (.slice none 0 0)) 29 (0, 0))) := Lib.hid (by have h := (heap_setCell_eq 2 (.int .i64 (numAt r 1 : Int)) (heap_setCell_eq 1 (.int .i64 (numAt r 0 : Int)) HR4.out)); rw [show ((recC 1 (List.replicate 16 0) ⟨#[]⟩ (.slice none 0 0)).setIfInBounds 1 (.int .i64 (numAt r 0 : Int))).setIfInBounds 2 (.int .i64 (numAt r 1 : Int)) = recC 1 [0, 0, 0, 0, 0, 0, 0, 0, 0, 0, 0, 0, 0, (numAt r 0 : Int), (numAt r 1 : Int), 0] ⟨#[]⟩ (.slice none 0 0) from by kernel_rfl] at h; exact h); have HFE : Hid (Fr (fun _ => False) w ((w4.setCell ⟨w.heap.size + 1, 1, none⟩ (.int .i64 (numAt r 0 : Int))).setCell ⟨w.heap.size + 1, 2, none⟩ (.int .i64 (numAt r 1 : Int)))) := Lib.hid (Fr.setCell (p := ⟨w.heap.size + 1, 2, none⟩) (Fr.setCell (p := ⟨w.heap.size + 1, 1, none⟩) HF4.out (.inr (by simp)) (.int .i64 (numAt r 0 : Int))) (.inr (by simp)) (.int .i64 (numAt r 1 : Int))); have HZE : Hid (((w4.setCell ⟨w.heap.size + 1, 1, none⟩ (.int .i64 (numAt r 0 : Int))).setCell ⟨w.heap.size + 1, 2, none⟩ (.int .i64 (numAt r 1 : Int))).heap[w.heap.size]? = some (.cells zrec 29 (0, 0))) := Lib.hid ((heap_setCell_ne _ _ _ _ (by simp)).trans ((heap_setCell_ne _ _ _ _ (by simp)).trans HZ4.out)); clear hvl hf4 hxc hr4)
          | (refine wpList_cutl rfl _ _ rfl (some ⟨b, o, none⟩) (r.length + 1) c (1 + 8 * 2) (1 :: r) rfl rfl (HRB.out.fr HF4.out) (by omega) ?_; intro b' c' hb'; rw [HDR.out] at hb' ⊢; rw [htn.out]; clear hb')
          | ((refine load_guard _ _ rfl ?_); refine wpList_load_row_w (by rfl) 29 _ rfl (w.heap.size + 1) rfl 29 _ (0, 0) _ HE.out Try.underlying29 rfl info29s ?_)
          | (go_at_call 20; refine (check_anyR 1 [0, 0, 0, 0, 0, 0, 0, 0, 0, 0, 0, 0, 0, (numAt r 0 : Int), (numAt r 1 : Int), 0] ⟨#[]⟩ none 0 0 _ rfl).mono ?_; rintro e w7 ⟨rfl, hf7⟩; have HF9 := Lib.hid (HFE.out.trans hf7 (fun _ _ h => h)); have HB9 := Lib.hid (hf7.get HZE.out id); have HW7 := Lib.hid (hf7.get HE.out id); clear hf7; rw [hc9])
          | ((refine load_guard _ _ rfl ?_); refine wpList_load_row rfl 29 _ rfl (w.heap.size + 1) rfl 29 _ (0, 0) _ HW7.out Try.underlying29 rfl info29s ?_)
          | ((refine store_guard _ _ _ _ rfl ?_); refine wpList_store_agg _ rfl _ _ 29 rfl w.heap.size 29 _ (recC 1 [0, 0, 0, 0, 0, 0, 0, 0, 0, 0, 0, 0, 0, (numAt r 0 : Int), (numAt r 1 : Int), 0] ⟨#[]⟩ (.slice none 0 0)) rfl rfl info29s HB9.out rfl (one19 _ _ _ _ _ _) ?_; intro w9 hw9 hf9))
        (try simp only [Exit.inBlock, Exit.then])
        refine bodyPost_ret (results_cell_tmp_row rfl _ _ w.heap.size 29 _ (0, 0) _ rfl hw9 Try.underlying29 rfl info29s) rfl ?_
        rw [HG6.out]
        exact ⟨.slice none 0 0, rfl, Own.nil _ _ _ _, HF9.out.trans hf9 (fun x hx h => by omega)⟩
      · have HGG : Hid (g = noGot) := Lib.hid (by rw [HG5.out, finG, List.length_nil, if_neg hc9])
        have hc1 : (checkE 1 [0, 0, 0, 0, 0, 0, 0, 0, 0, 0, 0, 0, 0, (numAt r 0 : Int), (numAt r 1 : Int), 0] ⟨#[]⟩ 0 == 0) = false := by simpa using hc9
        clear hc9
        generalize hcc : checkE 1 [0, 0, 0, 0, 0, 0, 0, 0, 0, 0, 0, 0, 0, (numAt r 0 : Int), (numAt r 1 : Int), 0] ⟨#[]⟩ 0 = ce at *
        have HCC := Lib.hid hcc
        clear hcc
        go_enter Try.func25, Try.ntmps25
        go_wp2_with (first
          | ((refine store_guard _ _ _ _ rfl ?_); refine wpList_store_agg _ rfl _ _ 29 rfl (w.heap.size + 1) 29 _ (recC 1 (List.replicate 16 0) ⟨#[]⟩ (.slice none 0 0)) rfl rfl info29s (heap_alloc_at _ _ _ (by simp)) rfl (one19 _ _ _ _ _ _) ?_; intro w3 hw3 hf3; have HF3 : Hid (Fr (fun _ => False) w w3) := Lib.hid ((((Fr.refl _ w).alloc _).alloc _).trans hf3 (fun x hx h => by omega)); have HZ3 : Hid (w3.heap[w.heap.size]? = some (.cells zrec 29 (0, 0))) := Lib.hid (hf3.get ((heap_alloc_lt _ _ _ (by simp)).trans (heap_alloc_eq _ _)) (by simp)); have d0 : w3.cell? ⟨w.heap.size + 1, 0, none⟩ = some (.int .i64 1) := cell_is hw3 0 rfl; have HR3 := Lib.hid hw3; have hlt3 : w.heap.size + 1 < w3.heap.size := lt_of_heap hw3; clear hw3 hf3)
          | (go_at_call 42; refine (HM.out _).mono ?_; rintro e w4 ⟨rfl, rfl⟩)
          | (go_at_call 43; refine (HN.out _ HF3.out).mono ?_; rintro e w4 ⟨vl, rfl, hvl, hf4⟩; obtain ⟨g7, cap7, rfl, hg7, hcp, hcpm, hxc⟩ := rnums_cell (hvl hok) (by decide); rw [hok]; have HF4 := Lib.hid (HF3.out.trans hf4 (fun _ _ h => h)); have HZ4 := Lib.hid (hf4.get HZ3.out id); have hr4 := hf4.get HR3.out id; have HR4 := Lib.hid hr4; have e0 : w4.cell? ⟨w.heap.size + 1, 0, none⟩ = some (.int .i64 1) := cell_is hr4 0 rfl; have q1 : w4.cell? ⟨w.heap.size + 1, 1, none⟩ = some (.int .i64 0) := cell_is hr4 1 rfl; have z1 := frozen_of hr4 1; have q2 : w4.cell? ⟨w.heap.size + 1, 2, none⟩ = some (.int .i64 0) := cell_is hr4 2 rfl; have z2 := frozen_of hr4 2; have y0 := hxc 0 (by omega); have y1 := hxc 1 (by omega); have hg7n : g7 ≠ w.heap.size + 1 := (by omega); have hg7m : w.heap.size + 1 ≠ g7 := (by omega); have HE : Hid (((w4.setCell ⟨w.heap.size + 1, 1, none⟩ (.int .i64 (numAt r 0 : Int))).setCell ⟨w.heap.size + 1, 2, none⟩ (.int .i64 (numAt r 1 : Int))).heap[w.heap.size + 1]? = some (.cells (recC 1 [0, 0, 0, 0, 0, 0, 0, 0, 0, 0, 0, 0, 0, (numAt r 0 : Int), (numAt r 1 : Int), 0] ⟨#[]⟩ (.slice none 0 0)) 29 (0, 0))) := Lib.hid (by have h := (heap_setCell_eq 2 (.int .i64 (numAt r 1 : Int)) (heap_setCell_eq 1 (.int .i64 (numAt r 0 : Int)) HR4.out)); rw [show ((recC 1 (List.replicate 16 0) ⟨#[]⟩ (.slice none 0 0)).setIfInBounds 1 (.int .i64 (numAt r 0 : Int))).setIfInBounds 2 (.int .i64 (numAt r 1 : Int)) = recC 1 [0, 0, 0, 0, 0, 0, 0, 0, 0, 0, 0, 0, 0, (numAt r 0 : Int), (numAt r 1 : Int), 0] ⟨#[]⟩ (.slice none 0 0) from by kernel_rfl] at h; exact h); have HFE : Hid (Fr (fun _ => False) w ((w4.setCell ⟨w.heap.size + 1, 1, none⟩ (.int .i64 (numAt r 0 : Int))).setCell ⟨w.heap.size + 1, 2, none⟩ (.int .i64 (numAt r 1 : Int)))) := Lib.hid (Fr.setCell (p := ⟨w.heap.size + 1, 2, none⟩) (Fr.setCell (p := ⟨w.heap.size + 1, 1, none⟩) HF4.out (.inr (by simp)) (.int .i64 (numAt r 0 : Int))) (.inr (by simp)) (.int .i64 (numAt r 1 : Int))); have HZE : Hid (((w4.setCell ⟨w.heap.size + 1, 1, none⟩ (.int .i64 (numAt r 0 : Int))).setCell ⟨w.heap.size + 1, 2, none⟩ (.int .i64 (numAt r 1 : Int))).heap[w.heap.size]? = some (.cells zrec 29 (0, 0))) := Lib.hid ((heap_setCell_ne _ _ _ _ (by simp)).trans ((heap_setCell_ne _ _ _ _ (by simp)).trans HZ4.out)); clear hvl hf4 hxc hr4)
          | (refine wpList_cutl rfl _ _ rfl (some ⟨b, o, none⟩) (r.length + 1) c (1 + 8 * 2) (1 :: r) rfl rfl (HRB.out.fr HF4.out) (by omega) ?_; intro b' c' hb'; rw [HDR.out] at hb' ⊢; rw [htn.out]; clear hb')
          | ((refine load_guard _ _ rfl ?_); refine wpList_load_row_w (by rfl) 29 _ rfl (w.heap.size + 1) rfl 29 _ (0, 0) _ HE.out Try.underlying29 rfl info29s ?_)
          | (go_at_call 20; refine (check_anyR 1 [0, 0, 0, 0, 0, 0, 0, 0, 0, 0, 0, 0, 0, (numAt r 0 : Int), (numAt r 1 : Int), 0] ⟨#[]⟩ none 0 0 _ rfl).mono ?_; rintro e w7 ⟨rfl, hf7⟩; have HF9 := Lib.hid (HFE.out.trans hf7 (fun _ _ h => h)); have HB9 := Lib.hid (hf7.get HZE.out id); have HW7 := Lib.hid (hf7.get HE.out id); clear hf7; rw [HCC.out])
          | ((refine store_guard _ _ _ _ rfl ?_); refine wpList_store_agg _ rfl _ _ 29 rfl w.heap.size 29 _ zrec rfl rfl zrec_size HB9.out rfl zrec_one ?_; intro w9 hw9 hf9))
        (try simp only [Exit.inBlock, Exit.then])
        refine bodyPost_ret (results_cell_tmp_row rfl _ _ w.heap.size 29 zrec (0, 0) _ rfl hw9 Try.underlying29 rfl zrec_size) rfl ?_
        rw [show g = noGot from by exact HGG.out]
        exact get_none rfl (HF9.out.trans hf9 (fun x hx h => by omega))
    · have HGG : Hid (g = noGot) := Lib.hid (by rw [HG4.out, if_neg ht0])
      obtain ⟨tn, htn0⟩ : ∃ tn, (r.drop (8 * 2)).length = tn := ⟨_, rfl⟩
      have hlp : ¬ tn = 0 := fun h => ht0 (by rw [← List.length_eq_zero_iff, htn0]; exact h)
      have hlp2 : 0 < (tn : Int) := by omega
      have htn := Lib.hid htn0
      clear ht0 HG4 htn0
      go_enter Try.func25, Try.ntmps25
      go_wp2_with (first
        | ((refine store_guard _ _ _ _ rfl ?_); refine wpList_store_agg _ rfl _ _ 29 rfl (w.heap.size + 1) 29 _ (recC 1 (List.replicate 16 0) ⟨#[]⟩ (.slice none 0 0)) rfl rfl info29s (heap_alloc_at _ _ _ (by simp)) rfl (one19 _ _ _ _ _ _) ?_; intro w3 hw3 hf3; have HF3 : Hid (Fr (fun _ => False) w w3) := Lib.hid ((((Fr.refl _ w).alloc _).alloc _).trans hf3 (fun x hx h => by omega)); have HZ3 : Hid (w3.heap[w.heap.size]? = some (.cells zrec 29 (0, 0))) := Lib.hid (hf3.get ((heap_alloc_lt _ _ _ (by simp)).trans (heap_alloc_eq _ _)) (by simp)); have d0 : w3.cell? ⟨w.heap.size + 1, 0, none⟩ = some (.int .i64 1) := cell_is hw3 0 rfl; have HR3 := Lib.hid hw3; have hlt3 : w.heap.size + 1 < w3.heap.size := lt_of_heap hw3; clear hw3 hf3)
        | (go_at_call 42; refine (HM.out _).mono ?_; rintro e w4 ⟨rfl, rfl⟩)
        | (go_at_call 43; refine (HN.out _ HF3.out).mono ?_; rintro e w4 ⟨vl, rfl, hvl, hf4⟩; obtain ⟨g7, cap7, rfl, hg7, hcp, hcpm, hxc⟩ := rnums_cell (hvl hok) (by decide); rw [hok]; have HF4 := Lib.hid (HF3.out.trans hf4 (fun _ _ h => h)); have HZ4 := Lib.hid (hf4.get HZ3.out id); have hr4 := hf4.get HR3.out id; have HR4 := Lib.hid hr4; have e0 : w4.cell? ⟨w.heap.size + 1, 0, none⟩ = some (.int .i64 1) := cell_is hr4 0 rfl; have q1 : w4.cell? ⟨w.heap.size + 1, 1, none⟩ = some (.int .i64 0) := cell_is hr4 1 rfl; have z1 := frozen_of hr4 1; have q2 : w4.cell? ⟨w.heap.size + 1, 2, none⟩ = some (.int .i64 0) := cell_is hr4 2 rfl; have z2 := frozen_of hr4 2; have y0 := hxc 0 (by omega); have y1 := hxc 1 (by omega); have hg7n : g7 ≠ w.heap.size + 1 := (by omega); have hg7m : w.heap.size + 1 ≠ g7 := (by omega); have HE : Hid (((w4.setCell ⟨w.heap.size + 1, 1, none⟩ (.int .i64 (numAt r 0 : Int))).setCell ⟨w.heap.size + 1, 2, none⟩ (.int .i64 (numAt r 1 : Int))).heap[w.heap.size + 1]? = some (.cells (recC 1 [0, 0, 0, 0, 0, 0, 0, 0, 0, 0, 0, 0, 0, (numAt r 0 : Int), (numAt r 1 : Int), 0] ⟨#[]⟩ (.slice none 0 0)) 29 (0, 0))) := Lib.hid (by have h := (heap_setCell_eq 2 (.int .i64 (numAt r 1 : Int)) (heap_setCell_eq 1 (.int .i64 (numAt r 0 : Int)) HR4.out)); rw [show ((recC 1 (List.replicate 16 0) ⟨#[]⟩ (.slice none 0 0)).setIfInBounds 1 (.int .i64 (numAt r 0 : Int))).setIfInBounds 2 (.int .i64 (numAt r 1 : Int)) = recC 1 [0, 0, 0, 0, 0, 0, 0, 0, 0, 0, 0, 0, 0, (numAt r 0 : Int), (numAt r 1 : Int), 0] ⟨#[]⟩ (.slice none 0 0) from by kernel_rfl] at h; exact h); have HFE : Hid (Fr (fun _ => False) w ((w4.setCell ⟨w.heap.size + 1, 1, none⟩ (.int .i64 (numAt r 0 : Int))).setCell ⟨w.heap.size + 1, 2, none⟩ (.int .i64 (numAt r 1 : Int)))) := Lib.hid (Fr.setCell (p := ⟨w.heap.size + 1, 2, none⟩) (Fr.setCell (p := ⟨w.heap.size + 1, 1, none⟩) HF4.out (.inr (by simp)) (.int .i64 (numAt r 0 : Int))) (.inr (by simp)) (.int .i64 (numAt r 1 : Int))); have HZE : Hid (((w4.setCell ⟨w.heap.size + 1, 1, none⟩ (.int .i64 (numAt r 0 : Int))).setCell ⟨w.heap.size + 1, 2, none⟩ (.int .i64 (numAt r 1 : Int))).heap[w.heap.size]? = some (.cells zrec 29 (0, 0))) := Lib.hid ((heap_setCell_ne _ _ _ _ (by simp)).trans ((heap_setCell_ne _ _ _ _ (by simp)).trans HZ4.out)); clear hvl hf4 hxc hr4)
        | (refine wpList_cutl rfl _ _ rfl (some ⟨b, o, none⟩) (r.length + 1) c (1 + 8 * 2) (1 :: r) rfl rfl (HRB.out.fr HF4.out) (by omega) ?_; intro b' c' hb'; rw [HDR.out] at hb' ⊢; rw [htn.out]; clear hb')
        | ((refine store_guard _ _ _ _ rfl ?_); refine wpList_store_agg _ rfl _ _ 29 rfl w.heap.size 29 _ zrec rfl rfl zrec_size HZE.out rfl zrec_one ?_; intro w9 hw9 hf9))
      (try simp only [Exit.inBlock, Exit.then])
      refine bodyPost_ret (results_cell_tmp_row rfl _ _ w.heap.size 29 zrec (0, 0) _ rfl hw9 Try.underlying29 rfl zrec_size) rfl ?_
      rw [show g = noGot from by exact HGG.out]
      exact get_none rfl (HFE.out.trans hf9 (fun x hx h => by omega))

set_option maxRecDepth 100000 in
set_option maxHeartbeats 4000000 in
theorem refget_4 (b o c : Nat) (r : List UInt8) (w : World) (hc0 : w.cell? ⟨b, o, none⟩ = some (.int .u8 4)) (hc : ∀ q (h : q < r.length), w.cell? ⟨b, o + (1 + q), none⟩ = some (byte r[q])) (hrb : RB w (.slice (some ⟨b, o, none⟩) (r.length + 1) c) (4 :: r))
    (hm : r.length ≤ 140737488360000) (g : Got) (hg : Hid (g = kindG 4 r)) : Calls Try.prog 25 #[.slice (some ⟨b, o, none⟩) (r.length + 1) c] w (GetPost g w) := by
  have hbl := World.block_lt_of_cell? w _ hc0
  have HC := Lib.hid hc
  have HC0 := Lib.hid hc0
  have HRB := Lib.hid hrb
  have hn0 : ¬ ((r.length : Int) + 1 = 0) := by omega
  have hn1 : (((r.length : Int) + 1) == 0) = false := by simp; omega
  have HN : Hid (∀ w' : World, Fr (fun _ => False) w w' → Calls Try.prog 43 #[.slice (some ⟨b, o, none⟩) (r.length + 1) c, .int .i64 1] w' (RNumsPost r 1 w')) := Lib.hid (fun w' hf => numbers_anyR b o c r 1 w' (fun q h => cell_fr' hf (hc q h)) (by omega) hm)
  have HM : Hid (∀ w' : World, Calls Try.prog 42 #[.int .i64 4] w' fun e w'' => e = .returned (.int .i64 1) ∧ w' = w'') := Lib.hid (fun w' => many_any 4 w' (by decide))
  clear hc hrb
  cases hok : rOk r 1
  · have HGG : Hid (g = noGot) := Lib.hid (by rw [hg.out]; exact kindG_no 4 r (by decide) hok)
    go_enter Try.func25, Try.ntmps25
    go_wp2_with (first
      | ((refine store_guard _ _ _ _ rfl ?_); refine wpList_store_agg _ rfl _ _ 29 rfl (w.heap.size + 1) 29 _ (recC 4 (List.replicate 16 0) ⟨#[]⟩ (.slice none 0 0)) rfl rfl info29s (heap_alloc_at _ _ _ (by simp)) rfl (one19 _ _ _ _ _ _) ?_; intro w3 hw3 hf3; have HF3 : Hid (Fr (fun _ => False) w w3) := Lib.hid ((((Fr.refl _ w).alloc _).alloc _).trans hf3 (fun x hx h => by omega)); have HZ3 : Hid (w3.heap[w.heap.size]? = some (.cells zrec 29 (0, 0))) := Lib.hid (hf3.get ((heap_alloc_lt _ _ _ (by simp)).trans (heap_alloc_eq _ _)) (by simp)); have d0 : w3.cell? ⟨w.heap.size + 1, 0, none⟩ = some (.int .i64 4) := cell_is hw3 0 rfl; have HR3 := Lib.hid hw3; clear hw3 hf3)
      | (go_at_call 42; refine (HM.out _).mono ?_; rintro e w4 ⟨rfl, rfl⟩)
      | (go_at_call 43; refine (HN.out _ HF3.out).mono ?_; rintro e w4 ⟨vl, rfl, hvl, hf4⟩; rw [hok]; have HF4 := Lib.hid (HF3.out.trans hf4 (fun _ _ h => h)); have HZ4 := Lib.hid (hf4.get HZ3.out id); clear hvl hf4)
      | ((refine store_guard _ _ _ _ rfl ?_); refine wpList_store_agg _ rfl _ _ 29 rfl w.heap.size 29 _ zrec rfl rfl zrec_size HZ4.out rfl zrec_one ?_; intro w9 hw9 hf9))
    (try simp only [Exit.inBlock, Exit.then])
    refine bodyPost_ret (results_cell_tmp_row rfl _ _ w.heap.size 29 zrec (0, 0) _ rfl hw9 Try.underlying29 rfl zrec_size) rfl ?_
    rw [show g = noGot from by exact HGG.out]
    exact get_none rfl (HF4.out.trans hf9 (fun x hx h => by omega))
  · obtain ⟨hgy, hrl⟩ := kindG_yes 4 r (by decide) hok
    have hpa : putAt (ofList 4) r (ofList 4).length = [0, 0, 0, 0, 0, 0, 0, 0, 0, 0, 0, 0, 0, 0, 0, (numAt r 0 : Int)] := by kernel_rfl
    rw [hpa, show (ofList 4).length = 1 from rfl] at hgy
    rw [show (ofList 4).length = 1 from rfl] at hrl
    have HDR : Hid (((4 : UInt8) :: r).drop (1 + 8 * 1) = r.drop (8 * 1)) := Lib.hid rfl
    have HG4 : Hid (g = if r.drop (8 * 1) = [] then finG 4 [0, 0, 0, 0, 0, 0, 0, 0, 0, 0, 0, 0, 0, 0, 0, (numAt r 0 : Int)] ⟨#[]⟩ [] else noGot) := Lib.hid (by rw [hg.out, hgy, restG, if_neg (by decide)])
    clear hpa hgy
    by_cases ht0 : r.drop (8 * 1) = []
    · have htn : Hid ((r.drop (8 * 1)).length = 0) := Lib.hid (by rw [ht0]; rfl)
      have HG5 : Hid (g = finG 4 [0, 0, 0, 0, 0, 0, 0, 0, 0, 0, 0, 0, 0, 0, 0, (numAt r 0 : Int)] ⟨#[]⟩ []) := Lib.hid (by rw [HG4.out, if_pos ht0])
      clear ht0 HG4
      by_cases hc9 : checkE 4 [0, 0, 0, 0, 0, 0, 0, 0, 0, 0, 0, 0, 0, 0, 0, (numAt r 0 : Int)] ⟨#[]⟩ 0 = 0
      · have HG6 : Hid (g = ⟨4, [0, 0, 0, 0, 0, 0, 0, 0, 0, 0, 0, 0, 0, 0, 0, (numAt r 0 : Int)], ⟨#[]⟩, [], 0⟩) := Lib.hid (by rw [HG5.out, finG, List.length_nil, if_pos hc9])
        go_enter Try.func25, Try.ntmps25
        go_wp2_with (first
          | ((refine store_guard _ _ _ _ rfl ?_); refine wpList_store_agg _ rfl _ _ 29 rfl (w.heap.size + 1) 29 _ (recC 4 (List.replicate 16 0) ⟨#[]⟩ (.slice none 0 0)) rfl rfl info29s (heap_alloc_at _ _ _ (by simp)) rfl (one19 _ _ _ _ _ _) ?_; intro w3 hw3 hf3; have HF3 : Hid (Fr (fun _ => False) w w3) := Lib.hid ((((Fr.refl _ w).alloc _).alloc _).trans hf3 (fun x hx h => by omega)); have HZ3 : Hid (w3.heap[w.heap.size]? = some (.cells zrec 29 (0, 0))) := Lib.hid (hf3.get ((heap_alloc_lt _ _ _ (by simp)).trans (heap_alloc_eq _ _)) (by simp)); have d0 : w3.cell? ⟨w.heap.size + 1, 0, none⟩ = some (.int .i64 4) := cell_is hw3 0 rfl; have HR3 := Lib.hid hw3; have hlt3 : w.heap.size + 1 < w3.heap.size := lt_of_heap hw3; clear hw3 hf3)
          | (go_at_call 42; refine (HM.out _).mono ?_; rintro e w4 ⟨rfl, rfl⟩)
          | (go_at_call 43; refine (HN.out _ HF3.out).mono ?_; rintro e w4 ⟨vl, rfl, hvl, hf4⟩; obtain ⟨g7, cap7, rfl, hg7, hcp, hcpm, hxc⟩ := rnums_cell (hvl hok) (by decide); rw [hok]; have HF4 := Lib.hid (HF3.out.trans hf4 (fun _ _ h => h)); have HZ4 := Lib.hid (hf4.get HZ3.out id); have hr4 := hf4.get HR3.out id; have HR4 := Lib.hid hr4; have e0 : w4.cell? ⟨w.heap.size + 1, 0, none⟩ = some (.int .i64 4) := cell_is hr4 0 rfl; have q3 : w4.cell? ⟨w.heap.size + 1, 3, none⟩ = some (.int .i64 0) := cell_is hr4 3 rfl; have z3 := frozen_of hr4 3; have y0 := hxc 0 (by omega); have hg7n : g7 ≠ w.heap.size + 1 := (by omega); have hg7m : w.heap.size + 1 ≠ g7 := (by omega); have HE : Hid ((w4.setCell ⟨w.heap.size + 1, 3, none⟩ (.int .i64 (numAt r 0 : Int))).heap[w.heap.size + 1]? = some (.cells (recC 4 [0, 0, 0, 0, 0, 0, 0, 0, 0, 0, 0, 0, 0, 0, 0, (numAt r 0 : Int)] ⟨#[]⟩ (.slice none 0 0)) 29 (0, 0))) := Lib.hid (by have h := (heap_setCell_eq 3 (.int .i64 (numAt r 0 : Int)) HR4.out); rw [show (recC 4 (List.replicate 16 0) ⟨#[]⟩ (.slice none 0 0)).setIfInBounds 3 (.int .i64 (numAt r 0 : Int)) = recC 4 [0, 0, 0, 0, 0, 0, 0, 0, 0, 0, 0, 0, 0, 0, 0, (numAt r 0 : Int)] ⟨#[]⟩ (.slice none 0 0) from by kernel_rfl] at h; exact h); have HFE : Hid (Fr (fun _ => False) w (w4.setCell ⟨w.heap.size + 1, 3, none⟩ (.int .i64 (numAt r 0 : Int)))) := Lib.hid (Fr.setCell (p := ⟨w.heap.size + 1, 3, none⟩) HF4.out (.inr (by simp)) (.int .i64 (numAt r 0 : Int))); have HZE : Hid ((w4.setCell ⟨w.heap.size + 1, 3, none⟩ (.int .i64 (numAt r 0 : Int))).heap[w.heap.size]? = some (.cells zrec 29 (0, 0))) := Lib.hid ((heap_setCell_ne _ _ _ _ (by simp)).trans HZ4.out); clear hvl hf4 hxc hr4)
          | (refine wpList_cutl rfl _ _ rfl (some ⟨b, o, none⟩) (r.length + 1) c (1 + 8 * 1) (4 :: r) rfl rfl (HRB.out.fr HF4.out) (by omega) ?_; intro b' c' hb'; rw [HDR.out] at hb' ⊢; rw [htn.out]; clear hb')
          | ((refine load_guard _ _ rfl ?_); refine wpList_load_row_w (by rfl) 29 _ rfl (w.heap.size + 1) rfl 29 _ (0, 0) _ HE.out Try.underlying29 rfl info29s ?_)
          | (go_at_call 20; refine (check_anyR 4 [0, 0, 0, 0, 0, 0, 0, 0, 0, 0, 0, 0, 0, 0, 0, (numAt r 0 : Int)] ⟨#[]⟩ none 0 0 _ rfl).mono ?_; rintro e w7 ⟨rfl, hf7⟩; have HF9 := Lib.hid (HFE.out.trans hf7 (fun _ _ h => h)); have HB9 := Lib.hid (hf7.get HZE.out id); have HW7 := Lib.hid (hf7.get HE.out id); clear hf7; rw [hc9])
          | ((refine load_guard _ _ rfl ?_); refine wpList_load_row rfl 29 _ rfl (w.heap.size + 1) rfl 29 _ (0, 0) _ HW7.out Try.underlying29 rfl info29s ?_)
          | ((refine store_guard _ _ _ _ rfl ?_); refine wpList_store_agg _ rfl _ _ 29 rfl w.heap.size 29 _ (recC 4 [0, 0, 0, 0, 0, 0, 0, 0, 0, 0, 0, 0, 0, 0, 0, (numAt r 0 : Int)] ⟨#[]⟩ (.slice none 0 0)) rfl rfl info29s HB9.out rfl (one19 _ _ _ _ _ _) ?_; intro w9 hw9 hf9))
        (try simp only [Exit.inBlock, Exit.then])
        refine bodyPost_ret (results_cell_tmp_row rfl _ _ w.heap.size 29 _ (0, 0) _ rfl hw9 Try.underlying29 rfl info29s) rfl ?_
        rw [HG6.out]
        exact ⟨.slice none 0 0, rfl, Own.nil _ _ _ _, HF9.out.trans hf9 (fun x hx h => by omega)⟩
      · have HGG : Hid (g = noGot) := Lib.hid (by rw [HG5.out, finG, List.length_nil, if_neg hc9])
        have hc1 : (checkE 4 [0, 0, 0, 0, 0, 0, 0, 0, 0, 0, 0, 0, 0, 0, 0, (numAt r 0 : Int)] ⟨#[]⟩ 0 == 0) = false := by simpa using hc9
        clear hc9
        generalize hcc : checkE 4 [0, 0, 0, 0, 0, 0, 0, 0, 0, 0, 0, 0, 0, 0, 0, (numAt r 0 : Int)] ⟨#[]⟩ 0 = ce at *
        have HCC := Lib.hid hcc
        clear hcc
        go_enter Try.func25, Try.ntmps25
        go_wp2_with (first
          | ((refine store_guard _ _ _ _ rfl ?_); refine wpList_store_agg _ rfl _ _ 29 rfl (w.heap.size + 1) 29 _ (recC 4 (List.replicate 16 0) ⟨#[]⟩ (.slice none 0 0)) rfl rfl info29s (heap_alloc_at _ _ _ (by simp)) rfl (one19 _ _ _ _ _ _) ?_; intro w3 hw3 hf3; have HF3 : Hid (Fr (fun _ => False) w w3) := Lib.hid ((((Fr.refl _ w).alloc _).alloc _).trans hf3 (fun x hx h => by omega)); have HZ3 : Hid (w3.heap[w.heap.size]? = some (.cells zrec 29 (0, 0))) := Lib.hid (hf3.get ((heap_alloc_lt _ _ _ (by simp)).trans (heap_alloc_eq _ _)) (by simp)); have d0 : w3.cell? ⟨w.heap.size + 1, 0, none⟩ = some (.int .i64 4) := cell_is hw3 0 rfl; have HR3 := Lib.hid hw3; have hlt3 : w.heap.size + 1 < w3.heap.size := lt_of_heap hw3; clear hw3 hf3)
          | (go_at_call 42; refine (HM.out _).mono ?_; rintro e w4 ⟨rfl, rfl⟩)
          | (go_at_call 43; refine (HN.out _ HF3.out).mono ?_; rintro e w4 ⟨vl, rfl, hvl, hf4⟩; obtain ⟨g7, cap7, rfl, hg7, hcp, hcpm, hxc⟩ := rnums_cell (hvl hok) (by decide); rw [hok]; have HF4 := Lib.hid (HF3.out.trans hf4 (fun _ _ h => h)); have HZ4 := Lib.hid (hf4.get HZ3.out id); have hr4 := hf4.get HR3.out id; have HR4 := Lib.hid hr4; have e0 : w4.cell? ⟨w.heap.size + 1, 0, none⟩ = some (.int .i64 4) := cell_is hr4 0 rfl; have q3 : w4.cell? ⟨w.heap.size + 1, 3, none⟩ = some (.int .i64 0) := cell_is hr4 3 rfl; have z3 := frozen_of hr4 3; have y0 := hxc 0 (by omega); have hg7n : g7 ≠ w.heap.size + 1 := (by omega); have hg7m : w.heap.size + 1 ≠ g7 := (by omega); have HE : Hid ((w4.setCell ⟨w.heap.size + 1, 3, none⟩ (.int .i64 (numAt r 0 : Int))).heap[w.heap.size + 1]? = some (.cells (recC 4 [0, 0, 0, 0, 0, 0, 0, 0, 0, 0, 0, 0, 0, 0, 0, (numAt r 0 : Int)] ⟨#[]⟩ (.slice none 0 0)) 29 (0, 0))) := Lib.hid (by have h := (heap_setCell_eq 3 (.int .i64 (numAt r 0 : Int)) HR4.out); rw [show (recC 4 (List.replicate 16 0) ⟨#[]⟩ (.slice none 0 0)).setIfInBounds 3 (.int .i64 (numAt r 0 : Int)) = recC 4 [0, 0, 0, 0, 0, 0, 0, 0, 0, 0, 0, 0, 0, 0, 0, (numAt r 0 : Int)] ⟨#[]⟩ (.slice none 0 0) from by kernel_rfl] at h; exact h); have HFE : Hid (Fr (fun _ => False) w (w4.setCell ⟨w.heap.size + 1, 3, none⟩ (.int .i64 (numAt r 0 : Int)))) := Lib.hid (Fr.setCell (p := ⟨w.heap.size + 1, 3, none⟩) HF4.out (.inr (by simp)) (.int .i64 (numAt r 0 : Int))); have HZE : Hid ((w4.setCell ⟨w.heap.size + 1, 3, none⟩ (.int .i64 (numAt r 0 : Int))).heap[w.heap.size]? = some (.cells zrec 29 (0, 0))) := Lib.hid ((heap_setCell_ne _ _ _ _ (by simp)).trans HZ4.out); clear hvl hf4 hxc hr4)
          | (refine wpList_cutl rfl _ _ rfl (some ⟨b, o, none⟩) (r.length + 1) c (1 + 8 * 1) (4 :: r) rfl rfl (HRB.out.fr HF4.out) (by omega) ?_; intro b' c' hb'; rw [HDR.out] at hb' ⊢; rw [htn.out]; clear hb')
          | ((refine load_guard _ _ rfl ?_); refine wpList_load_row_w (by rfl) 29 _ rfl (w.heap.size + 1) rfl 29 _ (0, 0) _ HE.out Try.underlying29 rfl info29s ?_)
          | (go_at_call 20; refine (check_anyR 4 [0, 0, 0, 0, 0, 0, 0, 0, 0, 0, 0, 0, 0, 0, 0, (numAt r 0 : Int)] ⟨#[]⟩ none 0 0 _ rfl).mono ?_; rintro e w7 ⟨rfl, hf7⟩; have HF9 := Lib.hid (HFE.out.trans hf7 (fun _ _ h => h)); have HB9 := Lib.hid (hf7.get HZE.out id); have HW7 := Lib.hid (hf7.get HE.out id); clear hf7; rw [HCC.out])
          | ((refine store_guard _ _ _ _ rfl ?_); refine wpList_store_agg _ rfl _ _ 29 rfl w.heap.size 29 _ zrec rfl rfl zrec_size HB9.out rfl zrec_one ?_; intro w9 hw9 hf9))
        (try simp only [Exit.inBlock, Exit.then])
        refine bodyPost_ret (results_cell_tmp_row rfl _ _ w.heap.size 29 zrec (0, 0) _ rfl hw9 Try.underlying29 rfl zrec_size) rfl ?_
        rw [show g = noGot from by exact HGG.out]
        exact get_none rfl (HF9.out.trans hf9 (fun x hx h => by omega))
    · have HGG : Hid (g = noGot) := Lib.hid (by rw [HG4.out, if_neg ht0])
      obtain ⟨tn, htn0⟩ : ∃ tn, (r.drop (8 * 1)).length = tn := ⟨_, rfl⟩
      have hlp : ¬ tn = 0 := fun h => ht0 (by rw [← List.length_eq_zero_iff, htn0]; exact h)
      have hlp2 : 0 < (tn : Int) := by omega
      have htn := Lib.hid htn0
      clear ht0 HG4 htn0
      go_enter Try.func25, Try.ntmps25
      go_wp2_with (first
        | ((refine store_guard _ _ _ _ rfl ?_); refine wpList_store_agg _ rfl _ _ 29 rfl (w.heap.size + 1) 29 _ (recC 4 (List.replicate 16 0) ⟨#[]⟩ (.slice none 0 0)) rfl rfl info29s (heap_alloc_at _ _ _ (by simp)) rfl (one19 _ _ _ _ _ _) ?_; intro w3 hw3 hf3; have HF3 : Hid (Fr (fun _ => False) w w3) := Lib.hid ((((Fr.refl _ w).alloc _).alloc _).trans hf3 (fun x hx h => by omega)); have HZ3 : Hid (w3.heap[w.heap.size]? = some (.cells zrec 29 (0, 0))) := Lib.hid (hf3.get ((heap_alloc_lt _ _ _ (by simp)).trans (heap_alloc_eq _ _)) (by simp)); have d0 : w3.cell? ⟨w.heap.size + 1, 0, none⟩ = some (.int .i64 4) := cell_is hw3 0 rfl; have HR3 := Lib.hid hw3; have hlt3 : w.heap.size + 1 < w3.heap.size := lt_of_heap hw3; clear hw3 hf3)
        | (go_at_call 42; refine (HM.out _).mono ?_; rintro e w4 ⟨rfl, rfl⟩)
        | (go_at_call 43; refine (HN.out _ HF3.out).mono ?_; rintro e w4 ⟨vl, rfl, hvl, hf4⟩; obtain ⟨g7, cap7, rfl, hg7, hcp, hcpm, hxc⟩ := rnums_cell (hvl hok) (by decide); rw [hok]; have HF4 := Lib.hid (HF3.out.trans hf4 (fun _ _ h => h)); have HZ4 := Lib.hid (hf4.get HZ3.out id); have hr4 := hf4.get HR3.out id; have HR4 := Lib.hid hr4; have e0 : w4.cell? ⟨w.heap.size + 1, 0, none⟩ = some (.int .i64 4) := cell_is hr4 0 rfl; have q3 : w4.cell? ⟨w.heap.size + 1, 3, none⟩ = some (.int .i64 0) := cell_is hr4 3 rfl; have z3 := frozen_of hr4 3; have y0 := hxc 0 (by omega); have hg7n : g7 ≠ w.heap.size + 1 := (by omega); have hg7m : w.heap.size + 1 ≠ g7 := (by omega); have HE : Hid ((w4.setCell ⟨w.heap.size + 1, 3, none⟩ (.int .i64 (numAt r 0 : Int))).heap[w.heap.size + 1]? = some (.cells (recC 4 [0, 0, 0, 0, 0, 0, 0, 0, 0, 0, 0, 0, 0, 0, 0, (numAt r 0 : Int)] ⟨#[]⟩ (.slice none 0 0)) 29 (0, 0))) := Lib.hid (by have h := (heap_setCell_eq 3 (.int .i64 (numAt r 0 : Int)) HR4.out); rw [show (recC 4 (List.replicate 16 0) ⟨#[]⟩ (.slice none 0 0)).setIfInBounds 3 (.int .i64 (numAt r 0 : Int)) = recC 4 [0, 0, 0, 0, 0, 0, 0, 0, 0, 0, 0, 0, 0, 0, 0, (numAt r 0 : Int)] ⟨#[]⟩ (.slice none 0 0) from by kernel_rfl] at h; exact h); have HFE : Hid (Fr (fun _ => False) w (w4.setCell ⟨w.heap.size + 1, 3, none⟩ (.int .i64 (numAt r 0 : Int)))) := Lib.hid (Fr.setCell (p := ⟨w.heap.size + 1, 3, none⟩) HF4.out (.inr (by simp)) (.int .i64 (numAt r 0 : Int))); have HZE : Hid ((w4.setCell ⟨w.heap.size + 1, 3, none⟩ (.int .i64 (numAt r 0 : Int))).heap[w.heap.size]? = some (.cells zrec 29 (0, 0))) := Lib.hid ((heap_setCell_ne _ _ _ _ (by simp)).trans HZ4.out); clear hvl hf4 hxc hr4)
        | (refine wpList_cutl rfl _ _ rfl (some ⟨b, o, none⟩) (r.length + 1) c (1 + 8 * 1) (4 :: r) rfl rfl (HRB.out.fr HF4.out) (by omega) ?_; intro b' c' hb'; rw [HDR.out] at hb' ⊢; rw [htn.out]; clear hb')
        | ((refine store_guard _ _ _ _ rfl ?_); refine wpList_store_agg _ rfl _ _ 29 rfl w.heap.size 29 _ zrec rfl rfl zrec_size HZE.out rfl zrec_one ?_; intro w9 hw9 hf9))
      (try simp only [Exit.inBlock, Exit.then])
      refine bodyPost_ret (results_cell_tmp_row rfl _ _ w.heap.size 29 zrec (0, 0) _ rfl hw9 Try.underlying29 rfl zrec_size) rfl ?_
      rw [show g = noGot from by exact HGG.out]
      exact get_none rfl (HFE.out.trans hf9 (fun x hx h => by omega))

set_option maxRecDepth 100000 in
set_option maxHeartbeats 4000000 in
theorem refget_3 (b o c : Nat) (r : List UInt8) (w : World) (hc0 : w.cell? ⟨b, o, none⟩ = some (.int .u8 3)) (hc : ∀ q (h : q < r.length), w.cell? ⟨b, o + (1 + q), none⟩ = some (byte r[q])) (hrb : RB w (.slice (some ⟨b, o, none⟩) (r.length + 1) c) (3 :: r))
    (hm : r.length ≤ 140737488360000) (g : Got) (hg : Hid (g = kindG 3 r)) : Calls Try.prog 25 #[.slice (some ⟨b, o, none⟩) (r.length + 1) c] w (GetPost g w) := by
  have hbl := World.block_lt_of_cell? w _ hc0
  have HC := Lib.hid hc
  have HC0 := Lib.hid hc0
  have HRB := Lib.hid hrb
  have hn0 : ¬ ((r.length : Int) + 1 = 0) := by omega
  have hn1 : (((r.length : Int) + 1) == 0) = false := by simp; omega
  have HN : Hid (∀ w' : World, Fr (fun _ => False) w w' → Calls Try.prog 43 #[.slice (some ⟨b, o, none⟩) (r.length + 1) c, .int .i64 11] w' (RNumsPost r 11 w')) := Lib.hid (fun w' hf => numbers_anyR b o c r 11 w' (fun q h => cell_fr' hf (hc q h)) (by omega) hm)
  have HM : Hid (∀ w' : World, Calls Try.prog 42 #[.int .i64 3] w' fun e w'' => e = .returned (.int .i64 11) ∧ w' = w'') := Lib.hid (fun w' => many_any 3 w' (by decide))
  clear hc hrb
  cases hok : rOk r 11
  · have HGG : Hid (g = noGot) := Lib.hid (by rw [hg.out]; exact kindG_no 3 r (by decide) hok)
    go_enter Try.func25, Try.ntmps25
    go_wp2_with (first
      | ((refine store_guard _ _ _ _ rfl ?_); refine wpList_store_agg _ rfl _ _ 29 rfl (w.heap.size + 1) 29 _ (recC 3 (List.replicate 16 0) ⟨#[]⟩ (.slice none 0 0)) rfl rfl info29s (heap_alloc_at _ _ _ (by simp)) rfl (one19 _ _ _ _ _ _) ?_; intro w3 hw3 hf3; have HF3 : Hid (Fr (fun _ => False) w w3) := Lib.hid ((((Fr.refl _ w).alloc _).alloc _).trans hf3 (fun x hx h => by omega)); have HZ3 : Hid (w3.heap[w.heap.size]? = some (.cells zrec 29 (0, 0))) := Lib.hid (hf3.get ((heap_alloc_lt _ _ _ (by simp)).trans (heap_alloc_eq _ _)) (by simp)); have d0 : w3.cell? ⟨w.heap.size + 1, 0, none⟩ = some (.int .i64 3) := cell_is hw3 0 rfl; have HR3 := Lib.hid hw3; clear hw3 hf3)
      | (go_at_call 42; refine (HM.out _).mono ?_; rintro e w4 ⟨rfl, rfl⟩)
      | (go_at_call 43; refine (HN.out _ HF3.out).mono ?_; rintro e w4 ⟨vl, rfl, hvl, hf4⟩; rw [hok]; have HF4 := Lib.hid (HF3.out.trans hf4 (fun _ _ h => h)); have HZ4 := Lib.hid (hf4.get HZ3.out id); clear hvl hf4)
      | ((refine store_guard _ _ _ _ rfl ?_); refine wpList_store_agg _ rfl _ _ 29 rfl w.heap.size 29 _ zrec rfl rfl zrec_size HZ4.out rfl zrec_one ?_; intro w9 hw9 hf9))
    (try simp only [Exit.inBlock, Exit.then])
    refine bodyPost_ret (results_cell_tmp_row rfl _ _ w.heap.size 29 zrec (0, 0) _ rfl hw9 Try.underlying29 rfl zrec_size) rfl ?_
    rw [show g = noGot from by exact HGG.out]
    exact get_none rfl (HF4.out.trans hf9 (fun x hx h => by omega))
  · obtain ⟨hgy, hrl⟩ := kindG_yes 3 r (by decide) hok
    have hpa : putAt (ofList 3) r (ofList 3).length = [(numAt r 0 : Int), (numAt r 1 : Int), (numAt r 2 : Int), 0, 0, (numAt r 3 : Int), (numAt r 4 : Int), (numAt r 5 : Int), (numAt r 6 : Int), (numAt r 7 : Int), (numAt r 8 : Int), (numAt r 9 : Int), (numAt r 10 : Int), 0, 0, 0] := by kernel_rfl
    rw [hpa, show (ofList 3).length = 11 from rfl] at hgy
    rw [show (ofList 3).length = 11 from rfl] at hrl
    have HDR : Hid (((3 : UInt8) :: r).drop (1 + 8 * 11) = r.drop (8 * 11)) := Lib.hid rfl
    have HG4 : Hid (g = if r.drop (8 * 11) = [] then finG 3 [(numAt r 0 : Int), (numAt r 1 : Int), (numAt r 2 : Int), 0, 0, (numAt r 3 : Int), (numAt r 4 : Int), (numAt r 5 : Int), (numAt r 6 : Int), (numAt r 7 : Int), (numAt r 8 : Int), (numAt r 9 : Int), (numAt r 10 : Int), 0, 0, 0] ⟨#[]⟩ [] else noGot) := Lib.hid (by rw [hg.out, hgy, restG, if_neg (by decide)])
    clear hpa hgy
    by_cases ht0 : r.drop (8 * 11) = []
    · have htn : Hid ((r.drop (8 * 11)).length = 0) := Lib.hid (by rw [ht0]; rfl)
      have HG5 : Hid (g = finG 3 [(numAt r 0 : Int), (numAt r 1 : Int), (numAt r 2 : Int), 0, 0, (numAt r 3 : Int), (numAt r 4 : Int), (numAt r 5 : Int), (numAt r 6 : Int), (numAt r 7 : Int), (numAt r 8 : Int), (numAt r 9 : Int), (numAt r 10 : Int), 0, 0, 0] ⟨#[]⟩ []) := Lib.hid (by rw [HG4.out, if_pos ht0])
      clear ht0 HG4
      by_cases hc9 : checkE 3 [(numAt r 0 : Int), (numAt r 1 : Int), (numAt r 2 : Int), 0, 0, (numAt r 3 : Int), (numAt r 4 : Int), (numAt r 5 : Int), (numAt r 6 : Int), (numAt r 7 : Int), (numAt r 8 : Int), (numAt r 9 : Int), (numAt r 10 : Int), 0, 0, 0] ⟨#[]⟩ 0 = 0
      · have HG6 : Hid (g = ⟨3, [(numAt r 0 : Int), (numAt r 1 : Int), (numAt r 2 : Int), 0, 0, (numAt r 3 : Int), (numAt r 4 : Int), (numAt r 5 : Int), (numAt r 6 : Int), (numAt r 7 : Int), (numAt r 8 : Int), (numAt r 9 : Int), (numAt r 10 : Int), 0, 0, 0], ⟨#[]⟩, [], 0⟩) := Lib.hid (by rw [HG5.out, finG, List.length_nil, if_pos hc9])
        go_enter Try.func25, Try.ntmps25
        go_wp2_with (first
          | ((refine store_guard _ _ _ _ rfl ?_); refine wpList_store_agg _ rfl _ _ 29 rfl (w.heap.size + 1) 29 _ (recC 3 (List.replicate 16 0) ⟨#[]⟩ (.slice none 0 0)) rfl rfl info29s (heap_alloc_at _ _ _ (by simp)) rfl (one19 _ _ _ _ _ _) ?_; intro w3 hw3 hf3; have HF3 : Hid (Fr (fun _ => False) w w3) := Lib.hid ((((Fr.refl _ w).alloc _).alloc _).trans hf3 (fun x hx h => by omega)); have HZ3 : Hid (w3.heap[w.heap.size]? = some (.cells zrec 29 (0, 0))) := Lib.hid (hf3.get ((heap_alloc_lt _ _ _ (by simp)).trans (heap_alloc_eq _ _)) (by simp)); have d0 : w3.cell? ⟨w.heap.size + 1, 0, none⟩ = some (.int .i64 3) := cell_is hw3 0 rfl; have HR3 := Lib.hid hw3; have hlt3 : w.heap.size + 1 < w3.heap.size := lt_of_heap hw3; clear hw3 hf3)
          | (go_at_call 42; refine (HM.out _).mono ?_; rintro e w4 ⟨rfl, rfl⟩)
          | (go_at_call 43; refine (HN.out _ HF3.out).mono ?_; rintro e w4 ⟨vl, rfl, hvl, hf4⟩; obtain ⟨g7, cap7, rfl, hg7, hcp, hcpm, hxc⟩ := rnums_cell (hvl hok) (by decide); rw [hok]; have HF4 := Lib.hid (HF3.out.trans hf4 (fun _ _ h => h)); have HZ4 := Lib.hid (hf4.get HZ3.out id); have hr4 := hf4.get HR3.out id; have HR4 := Lib.hid hr4; have e0 : w4.cell? ⟨w.heap.size + 1, 0, none⟩ = some (.int .i64 3) := cell_is hr4 0 rfl; have y0 := hxc 0 (by omega); have y1 := hxc 1 (by omega); have y2 := hxc 2 (by omega); have y3 := hxc 3 (by omega); have y4 := hxc 4 (by omega); have y5 := hxc 5 (by omega); have y6 := hxc 6 (by omega); have y7 := hxc 7 (by omega); have y8 := hxc 8 (by omega); have y9 := hxc 9 (by omega); have y10 := hxc 10 (by omega); have hg7n : g7 ≠ w.heap.size + 1 := (by omega); have hg7m : w.heap.size + 1 ≠ g7 := (by omega); clear hvl hf4 hxc hr4)
          | (go_at_call 44; refine (job_short (numAt r 0 : Int) (numAt r 1 : Int) (numAt r 2 : Int) (numAt r 3 : Int) (numAt r 4 : Int) (numAt r 5 : Int) (numAt r 6 : Int) (numAt r 7 : Int) (numAt r 8 : Int) (numAt r 9 : Int) (numAt r 10 : Int) g7 cap7 _ hcp hcpm y0 y1 y2 y3 y4 y5 y6 y7 y8 y9 y10).mono ?_; rintro e w5 ⟨rfl, hf5⟩; have HF5 := Lib.hid (HF4.out.trans hf5 (fun _ _ h => h)); have HZ5 := Lib.hid (hf5.get HZ4.out id); have HR5 := Lib.hid (hf5.get HR4.out id); clear hf5)
          | ((refine store_guard _ _ _ _ rfl ?_); refine wpList_store_off rfl 27 _ _ rfl (w.heap.size + 1) 4 29 _ (jobC [(numAt r 0 : Int), (numAt r 1 : Int), (numAt r 2 : Int), 0, 0, (numAt r 3 : Int), (numAt r 4 : Int), (numAt r 5 : Int), (numAt r 6 : Int), (numAt r 7 : Int), (numAt r 8 : Int), (numAt r 9 : Int), (numAt r 10 : Int), 0, 0, 0] ⟨#[]⟩ (.slice none 0 0)) (recC 3 [(numAt r 0 : Int), (numAt r 1 : Int), (numAt r 2 : Int), 0, 0, (numAt r 3 : Int), (numAt r 4 : Int), (numAt r 5 : Int), (numAt r 6 : Int), (numAt r 7 : Int), (numAt r 8 : Int), (numAt r 9 : Int), (numAt r 10 : Int), 0, 0, 0] ⟨#[]⟩ (.slice none 0 0)) rfl rfl HR5.out (by show 4 + 15 ≤ 19; decide) info27s (jobC_one _ _ _ _ _) (by kernel_rfl) ?_; intro w6 hw6 hf6; have HE := Lib.hid hw6; have HFE : Hid (Fr (fun _ => False) w w6) := Lib.hid (HF5.out.trans hf6 (fun x hx h => by omega)); have HZE : Hid (w6.heap[w.heap.size]? = some (.cells zrec 29 (0, 0))) := Lib.hid (hf6.get HZ5.out (by omega)); clear hw6 hf6)
          | (refine wpList_cutl rfl _ _ rfl (some ⟨b, o, none⟩) (r.length + 1) c (1 + 8 * 11) (3 :: r) rfl rfl (HRB.out.fr HF4.out) (by omega) ?_; intro b' c' hb'; rw [HDR.out] at hb' ⊢; rw [htn.out]; clear hb')
          | ((refine load_guard _ _ rfl ?_); refine wpList_load_row_w (by rfl) 29 _ rfl (w.heap.size + 1) rfl 29 _ (0, 0) _ HE.out Try.underlying29 rfl info29s ?_)
          | (go_at_call 20; refine (check_anyR 3 [(numAt r 0 : Int), (numAt r 1 : Int), (numAt r 2 : Int), 0, 0, (numAt r 3 : Int), (numAt r 4 : Int), (numAt r 5 : Int), (numAt r 6 : Int), (numAt r 7 : Int), (numAt r 8 : Int), (numAt r 9 : Int), (numAt r 10 : Int), 0, 0, 0] ⟨#[]⟩ none 0 0 _ rfl).mono ?_; rintro e w7 ⟨rfl, hf7⟩; have HF9 := Lib.hid (HFE.out.trans hf7 (fun _ _ h => h)); have HB9 := Lib.hid (hf7.get HZE.out id); have HW7 := Lib.hid (hf7.get HE.out id); clear hf7; rw [hc9])
          | ((refine load_guard _ _ rfl ?_); refine wpList_load_row rfl 29 _ rfl (w.heap.size + 1) rfl 29 _ (0, 0) _ HW7.out Try.underlying29 rfl info29s ?_)
          | ((refine store_guard _ _ _ _ rfl ?_); refine wpList_store_agg _ rfl _ _ 29 rfl w.heap.size 29 _ (recC 3 [(numAt r 0 : Int), (numAt r 1 : Int), (numAt r 2 : Int), 0, 0, (numAt r 3 : Int), (numAt r 4 : Int), (numAt r 5 : Int), (numAt r 6 : Int), (numAt r 7 : Int), (numAt r 8 : Int), (numAt r 9 : Int), (numAt r 10 : Int), 0, 0, 0] ⟨#[]⟩ (.slice none 0 0)) rfl rfl info29s HB9.out rfl (one19 _ _ _ _ _ _) ?_; intro w9 hw9 hf9))
        (try simp only [Exit.inBlock, Exit.then])
        refine bodyPost_ret (results_cell_tmp_row rfl _ _ w.heap.size 29 _ (0, 0) _ rfl hw9 Try.underlying29 rfl info29s) rfl ?_
        rw [HG6.out]
        exact ⟨.slice none 0 0, rfl, Own.nil _ _ _ _, HF9.out.trans hf9 (fun x hx h => by omega)⟩
      · have HGG : Hid (g = noGot) := Lib.hid (by rw [HG5.out, finG, List.length_nil, if_neg hc9])
        have hc1 : (checkE 3 [(numAt r 0 : Int), (numAt r 1 : Int), (numAt r 2 : Int), 0, 0, (numAt r 3 : Int), (numAt r 4 : Int), (numAt r 5 : Int), (numAt r 6 : Int), (numAt r 7 : Int), (numAt r 8 : Int), (numAt r 9 : Int), (numAt r 10 : Int), 0, 0, 0] ⟨#[]⟩ 0 == 0) = false := by simpa using hc9
        clear hc9
        generalize hcc : checkE 3 [(numAt r 0 : Int), (numAt r 1 : Int), (numAt r 2 : Int), 0, 0, (numAt r 3 : Int), (numAt r 4 : Int), (numAt r 5 : Int), (numAt r 6 : Int), (numAt r 7 : Int), (numAt r 8 : Int), (numAt r 9 : Int), (numAt r 10 : Int), 0, 0, 0] ⟨#[]⟩ 0 = ce at *
        have HCC := Lib.hid hcc
        clear hcc
        go_enter Try.func25, Try.ntmps25
        go_wp2_with (first
          | ((refine store_guard _ _ _ _ rfl ?_); refine wpList_store_agg _ rfl _ _ 29 rfl (w.heap.size + 1) 29 _ (recC 3 (List.replicate 16 0) ⟨#[]⟩ (.slice none 0 0)) rfl rfl info29s (heap_alloc_at _ _ _ (by simp)) rfl (one19 _ _ _ _ _ _) ?_; intro w3 hw3 hf3; have HF3 : Hid (Fr (fun _ => False) w w3) := Lib.hid ((((Fr.refl _ w).alloc _).alloc _).trans hf3 (fun x hx h => by omega)); have HZ3 : Hid (w3.heap[w.heap.size]? = some (.cells zrec 29 (0, 0))) := Lib.hid (hf3.get ((heap_alloc_lt _ _ _ (by simp)).trans (heap_alloc_eq _ _)) (by simp)); have d0 : w3.cell? ⟨w.heap.size + 1, 0, none⟩ = some (.int .i64 3) := cell_is hw3 0 rfl; have HR3 := Lib.hid hw3; have hlt3 : w.heap.size + 1 < w3.heap.size := lt_of_heap hw3; clear hw3 hf3)
          | (go_at_call 42; refine (HM.out _).mono ?_; rintro e w4 ⟨rfl, rfl⟩)
          | (go_at_call 43; refine (HN.out _ HF3.out).mono ?_; rintro e w4 ⟨vl, rfl, hvl, hf4⟩; obtain ⟨g7, cap7, rfl, hg7, hcp, hcpm, hxc⟩ := rnums_cell (hvl hok) (by decide); rw [hok]; have HF4 := Lib.hid (HF3.out.trans hf4 (fun _ _ h => h)); have HZ4 := Lib.hid (hf4.get HZ3.out id); have hr4 := hf4.get HR3.out id; have HR4 := Lib.hid hr4; have e0 : w4.cell? ⟨w.heap.size + 1, 0, none⟩ = some (.int .i64 3) := cell_is hr4 0 rfl; have y0 := hxc 0 (by omega); have y1 := hxc 1 (by omega); have y2 := hxc 2 (by omega); have y3 := hxc 3 (by omega); have y4 := hxc 4 (by omega); have y5 := hxc 5 (by omega); have y6 := hxc 6 (by omega); have y7 := hxc 7 (by omega); have y8 := hxc 8 (by omega); have y9 := hxc 9 (by omega); have y10 := hxc 10 (by omega); have hg7n : g7 ≠ w.heap.size + 1 := (by omega); have hg7m : w.heap.size + 1 ≠ g7 := (by omega); clear hvl hf4 hxc hr4)
          | (go_at_call 44; refine (job_short (numAt r 0 : Int) (numAt r 1 : Int) (numAt r 2 : Int) (numAt r 3 : Int) (numAt r 4 : Int) (numAt r 5 : Int) (numAt r 6 : Int) (numAt r 7 : Int) (numAt r 8 : Int) (numAt r 9 : Int) (numAt r 10 : Int) g7 cap7 _ hcp hcpm y0 y1 y2 y3 y4 y5 y6 y7 y8 y9 y10).mono ?_; rintro e w5 ⟨rfl, hf5⟩; have HF5 := Lib.hid (HF4.out.trans hf5 (fun _ _ h => h)); have HZ5 := Lib.hid (hf5.get HZ4.out id); have HR5 := Lib.hid (hf5.get HR4.out id); clear hf5)
          | ((refine store_guard _ _ _ _ rfl ?_); refine wpList_store_off rfl 27 _ _ rfl (w.heap.size + 1) 4 29 _ (jobC [(numAt r 0 : Int), (numAt r 1 : Int), (numAt r 2 : Int), 0, 0, (numAt r 3 : Int), (numAt r 4 : Int), (numAt r 5 : Int), (numAt r 6 : Int), (numAt r 7 : Int), (numAt r 8 : Int), (numAt r 9 : Int), (numAt r 10 : Int), 0, 0, 0] ⟨#[]⟩ (.slice none 0 0)) (recC 3 [(numAt r 0 : Int), (numAt r 1 : Int), (numAt r 2 : Int), 0, 0, (numAt r 3 : Int), (numAt r 4 : Int), (numAt r 5 : Int), (numAt r 6 : Int), (numAt r 7 : Int), (numAt r 8 : Int), (numAt r 9 : Int), (numAt r 10 : Int), 0, 0, 0] ⟨#[]⟩ (.slice none 0 0)) rfl rfl HR5.out (by show 4 + 15 ≤ 19; decide) info27s (jobC_one _ _ _ _ _) (by kernel_rfl) ?_; intro w6 hw6 hf6; have HE := Lib.hid hw6; have HFE : Hid (Fr (fun _ => False) w w6) := Lib.hid (HF5.out.trans hf6 (fun x hx h => by omega)); have HZE : Hid (w6.heap[w.heap.size]? = some (.cells zrec 29 (0, 0))) := Lib.hid (hf6.get HZ5.out (by omega)); clear hw6 hf6)
          | (refine wpList_cutl rfl _ _ rfl (some ⟨b, o, none⟩) (r.length + 1) c (1 + 8 * 11) (3 :: r) rfl rfl (HRB.out.fr HF4.out) (by omega) ?_; intro b' c' hb'; rw [HDR.out] at hb' ⊢; rw [htn.out]; clear hb')
          | ((refine load_guard _ _ rfl ?_); refine wpList_load_row_w (by rfl) 29 _ rfl (w.heap.size + 1) rfl 29 _ (0, 0) _ HE.out Try.underlying29 rfl info29s ?_)
          | (go_at_call 20; refine (check_anyR 3 [(numAt r 0 : Int), (numAt r 1 : Int), (numAt r 2 : Int), 0, 0, (numAt r 3 : Int), (numAt r 4 : Int), (numAt r 5 : Int), (numAt r 6 : Int), (numAt r 7 : Int), (numAt r 8 : Int), (numAt r 9 : Int), (numAt r 10 : Int), 0, 0, 0] ⟨#[]⟩ none 0 0 _ rfl).mono ?_; rintro e w7 ⟨rfl, hf7⟩; have HF9 := Lib.hid (HFE.out.trans hf7 (fun _ _ h => h)); have HB9 := Lib.hid (hf7.get HZE.out id); have HW7 := Lib.hid (hf7.get HE.out id); clear hf7; rw [HCC.out])
          | ((refine store_guard _ _ _ _ rfl ?_); refine wpList_store_agg _ rfl _ _ 29 rfl w.heap.size 29 _ zrec rfl rfl zrec_size HB9.out rfl zrec_one ?_; intro w9 hw9 hf9))
        (try simp only [Exit.inBlock, Exit.then])
        refine bodyPost_ret (results_cell_tmp_row rfl _ _ w.heap.size 29 zrec (0, 0) _ rfl hw9 Try.underlying29 rfl zrec_size) rfl ?_
        rw [show g = noGot from by exact HGG.out]
        exact get_none rfl (HF9.out.trans hf9 (fun x hx h => by omega))
    · have HGG : Hid (g = noGot) := Lib.hid (by rw [HG4.out, if_neg ht0])
      obtain ⟨tn, htn0⟩ : ∃ tn, (r.drop (8 * 11)).length = tn := ⟨_, rfl⟩
      have hlp : ¬ tn = 0 := fun h => ht0 (by rw [← List.length_eq_zero_iff, htn0]; exact h)
      have hlp2 : 0 < (tn : Int) := by omega
      have htn := Lib.hid htn0
      clear ht0 HG4 htn0
      go_enter Try.func25, Try.ntmps25
      go_wp2_with (first
        | ((refine store_guard _ _ _ _ rfl ?_); refine wpList_store_agg _ rfl _ _ 29 rfl (w.heap.size + 1) 29 _ (recC 3 (List.replicate 16 0) ⟨#[]⟩ (.slice none 0 0)) rfl rfl info29s (heap_alloc_at _ _ _ (by simp)) rfl (one19 _ _ _ _ _ _) ?_; intro w3 hw3 hf3; have HF3 : Hid (Fr (fun _ => False) w w3) := Lib.hid ((((Fr.refl _ w).alloc _).alloc _).trans hf3 (fun x hx h => by omega)); have HZ3 : Hid (w3.heap[w.heap.size]? = some (.cells zrec 29 (0, 0))) := Lib.hid (hf3.get ((heap_alloc_lt _ _ _ (by simp)).trans (heap_alloc_eq _ _)) (by simp)); have d0 : w3.cell? ⟨w.heap.size + 1, 0, none⟩ = some (.int .i64 3) := cell_is hw3 0 rfl; have HR3 := Lib.hid hw3; have hlt3 : w.heap.size + 1 < w3.heap.size := lt_of_heap hw3; clear hw3 hf3)
        | (go_at_call 42; refine (HM.out _).mono ?_; rintro e w4 ⟨rfl, rfl⟩)
        | (go_at_call 43; refine (HN.out _ HF3.out).mono ?_; rintro e w4 ⟨vl, rfl, hvl, hf4⟩; obtain ⟨g7, cap7, rfl, hg7, hcp, hcpm, hxc⟩ := rnums_cell (hvl hok) (by decide); rw [hok]; have HF4 := Lib.hid (HF3.out.trans hf4 (fun _ _ h => h)); have HZ4 := Lib.hid (hf4.get HZ3.out id); have hr4 := hf4.get HR3.out id; have HR4 := Lib.hid hr4; have e0 : w4.cell? ⟨w.heap.size + 1, 0, none⟩ = some (.int .i64 3) := cell_is hr4 0 rfl; have y0 := hxc 0 (by omega); have y1 := hxc 1 (by omega); have y2 := hxc 2 (by omega); have y3 := hxc 3 (by omega); have y4 := hxc 4 (by omega); have y5 := hxc 5 (by omega); have y6 := hxc 6 (by omega); have y7 := hxc 7 (by omega); have y8 := hxc 8 (by omega); have y9 := hxc 9 (by omega); have y10 := hxc 10 (by omega); have hg7n : g7 ≠ w.heap.size + 1 := (by omega); have hg7m : w.heap.size + 1 ≠ g7 := (by omega); clear hvl hf4 hxc hr4)
        | (go_at_call 44; refine (job_short (numAt r 0 : Int) (numAt r 1 : Int) (numAt r 2 : Int) (numAt r 3 : Int) (numAt r 4 : Int) (numAt r 5 : Int) (numAt r 6 : Int) (numAt r 7 : Int) (numAt r 8 : Int) (numAt r 9 : Int) (numAt r 10 : Int) g7 cap7 _ hcp hcpm y0 y1 y2 y3 y4 y5 y6 y7 y8 y9 y10).mono ?_; rintro e w5 ⟨rfl, hf5⟩; have HF5 := Lib.hid (HF4.out.trans hf5 (fun _ _ h => h)); have HZ5 := Lib.hid (hf5.get HZ4.out id); have HR5 := Lib.hid (hf5.get HR4.out id); clear hf5)
        | ((refine store_guard _ _ _ _ rfl ?_); refine wpList_store_off rfl 27 _ _ rfl (w.heap.size + 1) 4 29 _ (jobC [(numAt r 0 : Int), (numAt r 1 : Int), (numAt r 2 : Int), 0, 0, (numAt r 3 : Int), (numAt r 4 : Int), (numAt r 5 : Int), (numAt r 6 : Int), (numAt r 7 : Int), (numAt r 8 : Int), (numAt r 9 : Int), (numAt r 10 : Int), 0, 0, 0] ⟨#[]⟩ (.slice none 0 0)) (recC 3 [(numAt r 0 : Int), (numAt r 1 : Int), (numAt r 2 : Int), 0, 0, (numAt r 3 : Int), (numAt r 4 : Int), (numAt r 5 : Int), (numAt r 6 : Int), (numAt r 7 : Int), (numAt r 8 : Int), (numAt r 9 : Int), (numAt r 10 : Int), 0, 0, 0] ⟨#[]⟩ (.slice none 0 0)) rfl rfl HR5.out (by show 4 + 15 ≤ 19; decide) info27s (jobC_one _ _ _ _ _) (by kernel_rfl) ?_; intro w6 hw6 hf6; have HE := Lib.hid hw6; have HFE : Hid (Fr (fun _ => False) w w6) := Lib.hid (HF5.out.trans hf6 (fun x hx h => by omega)); have HZE : Hid (w6.heap[w.heap.size]? = some (.cells zrec 29 (0, 0))) := Lib.hid (hf6.get HZ5.out (by omega)); clear hw6 hf6)
        | (refine wpList_cutl rfl _ _ rfl (some ⟨b, o, none⟩) (r.length + 1) c (1 + 8 * 11) (3 :: r) rfl rfl (HRB.out.fr HF4.out) (by omega) ?_; intro b' c' hb'; rw [HDR.out] at hb' ⊢; rw [htn.out]; clear hb')
        | ((refine store_guard _ _ _ _ rfl ?_); refine wpList_store_agg _ rfl _ _ 29 rfl w.heap.size 29 _ zrec rfl rfl zrec_size HZE.out rfl zrec_one ?_; intro w9 hw9 hf9))
      (try simp only [Exit.inBlock, Exit.then])
      refine bodyPost_ret (results_cell_tmp_row rfl _ _ w.heap.size 29 zrec (0, 0) _ rfl hw9 Try.underlying29 rfl zrec_size) rfl ?_
      rw [show g = noGot from by exact HGG.out]
      exact get_none rfl (HFE.out.trans hf9 (fun x hx h => by omega))

end Go.Proofs.Ytpecbhimnpjkdaa
