/- QueuePlays: an iterator within itself. -/
import Derived.Test.YtolonoabipnpfaaQWhole
namespace Go.Proofs.Ytolonoabipnpfaa
open Go.RowKit Go.Sb
attribute [local go_sem] Oper.semAt_some

theorem fr_keeps {w w' : World} {B : Nat} (h : Fr (fun _ => False) w w') : KeepsFrom B w w' := ⟨h.size, fun _ _ _ hk _ => h.get hk id⟩
theorem fr_buf {T : TypeId} {w w' : World} (h : Fr (fun _ => False) w w') : KeepBuf T w w' := KeepBuf.of_fr h (fun _ _ h _ => h.elim)
theorem keepsFrom_trans {B : Nat} {a b c : World} (h : KeepsFrom B a b) (k : KeepsFrom B b c) : KeepsFrom B a c := ⟨Nat.le_trans h.size k.size, fun i o h1 h2 h3 => k.same i o h1 (h.same i o h1 h2 h3) h3⟩

set_option maxRecDepth 100000 in
set_option maxHeartbeats 4000000 in
theorem nested_any (w : World) (p : Pr) (h : PRep w p) (hg : p.g ≤ 4398046511104) :
    Calls Try.prog 48 #[.agg #[.pointer (some ⟨p.bq, 0, none⟩), .pointer (some ⟨p.br, 0, none⟩)]] w fun e w' => e = .returned (.bool true) ∧ Fr (fun _ => False) w w' := by
  have hlen := h.len
  have HP := Lib.hid h
  clear h
  have f1 : Fr (fun _ => False) w ((w.alloc (.cells #[.pointer (some ⟨p.bq, 0, none⟩), .pointer (some ⟨p.br, 0, none⟩)] 60)).alloc (.cells #[.bool false] 4)) := ((Fr.refl _ w).alloc _).alloc _
  have h1 : ((w.alloc (.cells #[.pointer (some ⟨p.bq, 0, none⟩), .pointer (some ⟨p.br, 0, none⟩)] 60)).alloc (.cells #[.bool false] 4)).heap[w.heap.size]? = some (.cells #[.pointer (some ⟨p.bq, 0, none⟩), .pointer (some ⟨p.br, 0, none⟩)] 60 (0, 0)) := (heap_alloc_lt _ _ _ (by simp)).trans (heap_alloc_eq _ _)
  have h2 : ((w.alloc (.cells #[.pointer (some ⟨p.bq, 0, none⟩), .pointer (some ⟨p.br, 0, none⟩)] 60)).alloc (.cells #[.bool false] 4)).heap[w.heap.size + 1]? = some (.cells #[.bool false] 4 (0, 0)) := heap_alloc_n _ _ _ (by simp)
  have hs1 : ((w.alloc (.cells #[.pointer (some ⟨p.bq, 0, none⟩), .pointer (some ⟨p.br, 0, none⟩)] 60)).alloc (.cells #[.bool false] 4)).heap.size = w.heap.size + 1 + 1 := by simp
  have HF1 := Lib.hid f1
  have H1 := Lib.hid h1
  have H2 := Lib.hid h2
  have c0 : ((w.alloc (.cells #[.pointer (some ⟨p.bq, 0, none⟩), .pointer (some ⟨p.br, 0, none⟩)] 60)).alloc (.cells #[.bool false] 4)).cell? ⟨w.heap.size, 0, none⟩ = some (.pointer (some ⟨p.bq, 0, none⟩)) := cell_is h1 0 rfl
  clear f1 h1 h2
  generalize hw1 : (w.alloc (.cells #[.pointer (some ⟨p.bq, 0, none⟩), .pointer (some ⟨p.br, 0, none⟩)] 60)).alloc (.cells #[.bool false] 4) = w1 at *
  refine calls_of_marks Try.func48 rfl ?_
  simp only [Try.ntmps48, List.size_toArray, List.length_cons, List.length_nil, Nat.reduceAdd, Nat.reduceSub, Array.replicate_succ, Array.replicate_zero, List.push_toArray, List.append_toArray, List.nil_append, List.cons_append]
  go_wp2_with (fail)
  generalize hb1 : w.heap.size = b1 at *
  refine (QI.all_any p.bq w1).mono ?_
  rintro e w2 ⟨rfl, hw2⟩
  rw [hs1]
  have f2 : Fr (fun _ => False) w1 w2 := by rw [hw2]; exact (Fr.refl _ w1).alloc _
  have hBn : w2.heap[b1 + 1 + 1]? = some (.cells #[.pointer (some ⟨p.bq, 0, none⟩)] 45 (0, 0)) := by rw [hw2, ← hs1]; exact heap_alloc_eq _ _
  have hs2 : w2.heap.size = b1 + 1 + 1 + 1 := by rw [hw2]; simp; omega
  clear hw2 c0
  have hn13 := heap_alloc_eq w2 (.cells #[.nilFunc] 66)
  have k13 : (w2.alloc (.cells #[.nilFunc] 66)).cell? ⟨w2.heap.size, 0, none⟩ = some .nilFunc := cell_is hn13 0 rfl
  have z13 := frozen_of hn13 0
  have h13 := heap_setCell_eq 0 (.func (.func 43) #[] #[.pointer (some ⟨b1 + 1 + 1, 0, none⟩)]) hn13
  simp only [List.setIfInBounds_toArray, List.set_cons_zero] at h13
  have f3 : Fr (fun _ => False) w2 ((w2.alloc (.cells #[.nilFunc] 66)).setCell ⟨w2.heap.size, 0, none⟩ (.func (.func 43) #[] #[.pointer (some ⟨b1 + 1 + 1, 0, none⟩)])) := ((Fr.refl (fun _ => False) w2).alloc _).setCell (p := ⟨w2.heap.size, 0, none⟩) (.inr (Nat.le_refl _)) _
  have hs3 : ((w2.alloc (.cells #[.nilFunc] 66)).setCell ⟨w2.heap.size, 0, none⟩ (.func (.func 43) #[] #[.pointer (some ⟨b1 + 1 + 1, 0, none⟩)])).heap.size = b1 + 1 + 1 + 1 + 1 := by simp; omega
  generalize hw3 : (w2.alloc (.cells #[.nilFunc] 66)).setCell ⟨w2.heap.size, 0, none⟩ (.func (.func 43) #[] #[.pointer (some ⟨b1 + 1 + 1, 0, none⟩)]) = w3 at *
  have f4 : Fr (fun _ => False) w3 (w3.alloc (.cells #[.int .i64 0] 3)) := (Fr.refl _ w3).alloc _
  have HF4 := Lib.hid (((HF1.out.trans f2 (fun _ _ h => h)).trans f3 (fun _ _ h => h)).trans f4 (fun _ _ h => h))
  have HB4 := Lib.hid (f4.get (f3.get hBn id) id)
  have H134 := Lib.hid (f4.get h13 id)
  have H14 := Lib.hid (((f2.trans f3 (fun _ _ h => h)).trans f4 (fun _ _ h => h)).get H1.out id)
  have H24 := Lib.hid (((f2.trans f3 (fun _ _ h => h)).trans f4 (fun _ _ h => h)).get H2.out id)
  have HI4 := Lib.hid (heap_alloc_eq w3 (.cells #[.int .i64 0] 3))
  have hs4 : (w3.alloc (.cells #[.int .i64 0] 3)).heap.size = b1 + 1 + 1 + 1 + 1 + 1 := by simp; omega
  have i13 : (w3.alloc (.cells #[.int .i64 0] 3)).cell? ⟨w2.heap.size, 0, none⟩ = some (.func (.func 43) #[] #[.pointer (some ⟨b1 + 1 + 1, 0, none⟩)]) := cell_is H134.out 0 rfl
  clear f2 f3 f4 h13 hn13 hBn
  have HS := Lib.hid (And.intro hs2 (And.intro hs3 hs4))
  clear hs1 hs2 hs3 hs4 hw1
  go_wp2_with (fail)
  obtain ⟨hs2, hs3, hs4⟩ := HS.out
  generalize hb3 : w2.heap.size = b3 at *
  generalize hb4 : w3.heap.size = b4 at *
  generalize hw4 : w3.alloc (.cells #[.int .i64 0] 3) = w4 at *
  have HP4 := Lib.hid (HP.out.fr HF4.out (fun _ _ h => h))
  have hrn : ∀ k, p.foot k → k < b1 := fun k hk => by have := HP.out.lt k hk; omega
  have hBc : w4.cell? ⟨b1 + 1 + 1, 0, none⟩ = some (.pointer (some ⟨p.bq, 0, none⟩)) := cell_is HB4.out 0 rfl
  clear k13 z13 hw3 hw4 HS
  subst hs2
  subst hs3
  refine (wpIn_wide (n := 1)).1 ?_
  refine wpIn_rangeNext (gf := 43) (lb := #[.pointer (some ⟨b1 + 1 + 1, 0, none⟩)]) rfl (enters_of Try.func43 (by kernel_rfl) rfl)
    (QI.all_gives _ p.bq p.bm (b1 + 1 + 1) p.g w4 p.l p.xs HP4.out.q HP4.out.same (by omega) hBc) KeepBuf.trans (fun W l o o' _ hl ho _ => KeepBuf.putObj W l o o' hl ho) (Below.refl _ _) (fun _ => rfl)
    (fun pre W => W.heap[(b1 + 1 + 1 + 1 + 1)]? = some (.cells #[.int .i64 (pre.length : Int)] 3 (0, 0)) ∧ Fr (fun k => k = (b1 + 1 + 1 + 1 + 1)) w4 W) (fun _ _ _ => False) ?own (fun _ _ _ _ _ h _ _ => h) ⟨HI4.out, Fr.refl _ _⟩ ?round ?done ?stop
  case own =>
    intro s A B row ⟨h1, h2⟩ hg hr
    exact ⟨(hg.block _ (lt_of_heap h1) (fun e => by have := (hr _ e.symm).1; omega)).trans h1, h2.grown hg (fun k e => .inr (hr k e).1)⟩
  case stop =>
    rintro D c pre W _ _ h _
    exact h.elim
  case round =>
    rintro l pre x V W ⟨hi, hf⟩ hnx
    obtain ⟨hx, hxl⟩ := px_at hnx
    have hpr := HP4.out.fr hf (fun k hk e => by have := hrn k hk; omega)
    obtain ⟨gt, ct, gs, cs, htv, hsv, ht1, ht2, ht3, ht4, t1, t2⟩ := hpr.r.at hx
    have i0 : W.cell? ⟨(b1 + 1 + 1 + 1 + 1), 0, none⟩ = some (.int .i64 (pre.length : Int)) := cell_is hi 0 rfl
    have i5 : W.cell? ⟨b1, 1, none⟩ = some (.pointer (some ⟨p.br, 0, none⟩)) := cell_is (hf.get H14.out (fun e => by omega)) 1 rfl
    have i3 : W.cell? ⟨b1 + 1 + 1 + 1, 0, none⟩ = some (.func (.func 43) #[] #[.pointer (some ⟨b1 + 1 + 1, 0, none⟩)]) := cell_is (hf.get H134.out (fun e => by omega)) 0 rfl
    have q0 : W.cell? ⟨p.br, 0, none⟩ = some (.slice (some ⟨gt, 0, none⟩) p.xs.length ct) := (show W.cell? ⟨p.br, 0, none⟩ = some p.tv from cell_is hpr.r.head 0 rfl).trans (by rw [htv])
    have q1 : W.cell? ⟨p.br, 1, none⟩ = some (.slice (some ⟨gs, 0, none⟩) p.xs.length cs) := (show W.cell? ⟨p.br, 1, none⟩ = some p.sv from cell_is hpr.r.head 1 rfl).trans (by rw [hsv])
    have hd1 : decide (p.xs.length ≤ pre.length) = false := by simp; omega
    have HI := Lib.hid hi
    have HF := Lib.hid hf
    have HPW := Lib.hid hpr
    have HBW := Lib.hid (hf.get HB4.out (fun e => by omega))
    obtain ⟨xt, xx⟩ := x
    dsimp only at t1 t2
    clear hi hf hnx hx hpr htv hsv
    gi_wp2
    refine ⟨trivial, ?_⟩
    gi_wp2
    refine wpIn_region_quiet_round (by kernel_rfl) (by kernel_rfl) (by kernel_rfl) ?_
    repeat (gi_big_quiet_step (fail))
    refine wpQuietIn_nil ?_
    rintro _ ⟨nq, rfl⟩
    have HWH := Lib.hid (whole_any (W.drewN nq) p (b1 + 1 + 1) (HPW.out.of (fun _ _ => rfl)) hg HBW.out)
    have hset : ∀ W2 : World, Fr (fun _ => False) W W2 → KeepsFrom (b1 + 1 + 1 + 1 + 1 + 1) W (W2.setCell ⟨(b1 + 1 + 1 + 1 + 1), 0, none⟩ (.int .i64 ((pre.length : Int) + 1))) ∧ KeepBuf 96 W (W2.setCell ⟨(b1 + 1 + 1 + 1 + 1), 0, none⟩ (.int .i64 ((pre.length : Int) + 1))) ∧
        (W2.setCell ⟨(b1 + 1 + 1 + 1 + 1), 0, none⟩ (.int .i64 ((pre.length : Int) + 1))).heap[(b1 + 1 + 1 + 1 + 1)]? = some (.cells #[.int .i64 ((pre.length : Int) + 1)] 3 (0, 0)) ∧ Fr (fun k => k = (b1 + 1 + 1 + 1 + 1)) w4 (W2.setCell ⟨(b1 + 1 + 1 + 1 + 1), 0, none⟩ (.int .i64 ((pre.length : Int) + 1))) ∧
        W2.cell? ⟨(b1 + 1 + 1 + 1 + 1), 0, none⟩ = some (.int .i64 (pre.length : Int)) ∧ W2.frozen? ⟨(b1 + 1 + 1 + 1 + 1), 0, none⟩ = false := fun W2 h2 => by
      have hi2 := h2.get HI.out id
      have hk := heap_setCell_eq 0 (.int .i64 ((pre.length : Int) + 1)) hi2
      simp only [List.setIfInBounds_toArray, List.set_cons_zero] at hk
      have hff : Fr (fun k => k = (b1 + 1 + 1 + 1 + 1)) W (W2.setCell ⟨(b1 + 1 + 1 + 1 + 1), 0, none⟩ (.int .i64 ((pre.length : Int) + 1))) := (h2.mono (F' := fun k => k = b1 + 1 + 1 + 1 + 1) (fun _ _ h => h.elim)).setCell (p := ⟨b1 + 1 + 1 + 1 + 1, 0, none⟩) (.inl rfl) _
      refine ⟨⟨hff.size, fun k o h1 h3 h4 => hff.get h3 (fun e => by omega)⟩, KeepBuf.of_fr hff (fun k cs hk hc => by subst hk; exact absurd rfl (ne_of_types HI.out hc (by decide))), hk, HF.out.trans hff (fun _ _ h => h), cell_is hi2 0 rfl, frozen_of hi2 0⟩
    have HSET := Lib.hid hset
    clear hset
    by_cases h3 : (pre.length : Int) < 3
    · gi_wp2
      refine ⟨trivial, rfl, CallsIn.mono (show CallsIn (Fence.wide.inRound l) 0 Try.prog 23 _ (W.drewN nq) _ from callsIn_wide.2 HWH.out) ?_⟩
      rintro e W2 ⟨rfl, hf2⟩
      obtain ⟨y1, y2, y3, y4, y5, y6⟩ := HSET.out W2 (((Fr.refl (fun _ => False) W).drewN nq).trans hf2 (fun _ _ h => h))
      have HY := Lib.hid (And.intro y1 (And.intro y2 (And.intro y3 y4)))
      clear y1 y2 y3 y4 hf2
      gi_wp2
      exact ⟨by first | exact HY.out.1 | (rw [hs4]; exact HY.out.1), HY.out.2.1, by simpa using HY.out.2.2.1, HY.out.2.2.2⟩
    · obtain ⟨y1, y2, y3, y4, y5, y6⟩ := HSET.out (W.drewN nq) ((Fr.refl (fun _ => False) W).drewN nq)
      have HY := Lib.hid (And.intro y1 (And.intro y2 (And.intro y3 y4)))
      clear y1 y2 y3 y4
      gi_wp2
      exact ⟨by first | exact HY.out.1 | (rw [hs4]; exact HY.out.1), HY.out.2.1, by simpa using HY.out.2.2.1, HY.out.2.2.2⟩
  case done =>
    rintro D ys W hD rfl ⟨hi, hf⟩ hK
    have hpr := HP4.out.fr hf (fun k hk e => by have := hrn k hk; omega)
    obtain ⟨a, c, a', c', htv, hsv⟩ := hpr.r.shapes
    have i0 : W.cell? ⟨b1 + 1 + 1 + 1 + 1, 0, none⟩ = some (.int .i64 (p.xs.length : Int)) := cell_is hi 0 rfl
    have i5 : W.cell? ⟨b1, 1, none⟩ = some (.pointer (some ⟨p.br, 0, none⟩)) := cell_is (hf.get H14.out (fun e => by omega)) 1 rfl
    have q0 : W.cell? ⟨p.br, 0, none⟩ = some (.slice a p.xs.length c) := (show W.cell? ⟨p.br, 0, none⟩ = some p.tv from cell_is hpr.r.head 0 rfl).trans (by rw [htv])
    have h4 := hf.get H24.out (fun e => by omega)
    have i4 : W.cell? ⟨b1 + 1, 0, none⟩ = some (.bool false) := cell_is h4 0 rfl
    have z4 := frozen_of h4 0
    have HK := Lib.hid hK
    have HF := Lib.hid hf
    have hDo : D ≠ b1 + 1 := by omega
    clear hi hf hK hpr h4 htv hsv
    go_wp2_with (fail)
    go_still_tail 8, (by kernel_rfl)
    change wpList _ _ _ _ _ W.drew
    go_wp2_with (fail)
    have hK' : (W.setCell ⟨b1 + 1, 0, none⟩ (.bool true)).drew.heap[D]? = some (.deferred (some [])) := (heap_setCell_ne _ _ _ _ hDo).trans HK.out
    refine ⟨by simp, .inl ⟨_, _, rfl, run_takeDeferred hK', ?_⟩⟩
    have hc5 : ((W.setCell ⟨b1 + 1, 0, none⟩ (.bool true)).drew.putObj D (.deferred none)).cell? ⟨b1 + 1, 0, none⟩ = some (.bool true) := by
      rw [cell?_putObj _ _ _ _ (Ne.symm hDo)]
      exact World.cell?_setCell_same' W _ _ (by rw [i4]; rfl)
    refine ⟨.bool true, ?_, rfl, (((HF4.out.trans HF.out (fun k hk e => by omega)).setCell (p := ⟨b1 + 1, 0, none⟩) (.inr (show w.heap.size ≤ b1 + 1 by omega)) _).drew).putObj (.inr (by omega)) _⟩
    simp [results, Try.f48, go_sem, hc5]

end Go.Proofs.Ytolonoabipnpfaa
