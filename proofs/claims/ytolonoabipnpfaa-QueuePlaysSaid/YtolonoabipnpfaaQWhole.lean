/- QueuePlays: a range over a queue beside the document's list. -/
import Derived.Test.YtolonoabipnpfaaQPx
import Derived.Test.YtolonoabipnpfaaQTx0
import Derived.Deep.RegionHeld3
import Derived.BigQuiet
import Derived.StillTailTactics
import Derived.Sort.QuietIn
import Derived.Laws.EntriesVeiled
namespace Go.Proofs.Ytolonoabipnpfaa
open Go.RowKit Go.Sb
attribute [local go_sem] Oper.semAt_some

theorem px_at {α : Type} {xs pre : List α} {x : α} (h : pre ++ [x] <+: xs) : xs[pre.length]? = some x ∧ pre.length < xs.length := by
  obtain ⟨r, rfl⟩ := h
  exact ⟨by rw [List.append_assoc, List.getElem?_append_right (Nat.le_refl _)]; simp, by simp⟩

/-- the document's list, a place of it -/
theorem RRep.at {F : Nat → Prop} {w : World} {br : Nat} {tv sv : Value} {g : Int} {L : List (Int × Int)} (h : RRep F w br tv sv g L) {n : Nat} {x : Int × Int} (hx : L[n]? = some x) :
    ∃ gt ct gs cs, tv = .slice (some ⟨gt, 0, none⟩) L.length ct ∧ sv = .slice (some ⟨gs, 0, none⟩) L.length cs ∧ L.length ≤ ct ∧ ct ≤ maxLen ∧ L.length ≤ cs ∧ cs ≤ maxLen ∧
      w.cell? ⟨gt, n, none⟩ = some (.int .i64 x.1) ∧ w.cell? ⟨gs, n, none⟩ = some (.int .i64 x.2) := by
  have hn := (List.getElem?_eq_some_iff.1 hx).1
  obtain ⟨gt, ct, rfl, h1, h2⟩ := h.ts.some (by omega)
  obtain ⟨gs, cs, rfl, h3, h4⟩ := h.xs.some (by omega)
  exact ⟨gt, ct, gs, cs, rfl, rfl, h1, h2, h3, h4, h.ts.cell rfl (by rw [List.getElem?_map, hx]; rfl), h.xs.cell rfl (by rw [List.getElem?_map, hx]; rfl)⟩

theorem RRep.foot_lt {F : Nat → Prop} {w : World} {br : Nat} {tv sv : Value} {g : Int} {L : List (Int × Int)} (h : RRep F w br tv sv g L) {k : Nat} (hk : rfoot br tv sv k) : k < w.heap.size := by
  obtain ⟨cs, hc | hc⟩ := h.foot_cells hk <;> exact lt_of_heap hc

theorem RRep.shapes {F : Nat → Prop} {w : World} {br : Nat} {tv sv : Value} {g : Int} {L : List (Int × Int)} (h : RRep F w br tv sv g L) : ∃ a c a' c', tv = .slice a L.length c ∧ sv = .slice a' L.length c' := by
  obtain ⟨a, c, h1⟩ := own_slice1 h.ts
  obtain ⟨a', c', h2⟩ := own_slice1 h.xs
  exact ⟨a, c, a', c', h1, h2⟩

set_option maxRecDepth 100000 in
set_option maxHeartbeats 4000000 in
theorem whole_any (w : World) (p : Pr) (Bn : Nat) (h : PRep w p) (hg : p.g ≤ 4398046511104) (hB : w.heap[Bn]? = some (.cells #[.pointer (some ⟨p.bq, 0, none⟩)] 45 (0, 0))) :
    Calls Try.prog 23 #[.func (.func 43) #[] #[.pointer (some ⟨Bn, 0, none⟩)], .pointer (some ⟨p.br, 0, none⟩)] w fun e w' => e = .returned (.bool true) ∧ Fr (fun _ => False) w w' := by
  have hlen := h.len
  have HP := Lib.hid h
  have HB := Lib.hid hB
  have hBl := lt_of_heap hB
  clear h hB
  have f1 : Fr (fun _ => False) w (w.alloc (.cells #[.bool false] 4)) := (Fr.refl _ w).alloc _
  have H4 := Lib.hid (heap_alloc_eq w (.cells #[.bool false] 4))
  have HF1 := Lib.hid f1
  have HR1 := Lib.hid (HP.out.r.fr f1 (fun _ _ _ h => h))
  clear f1
  refine calls_of_marks Try.func23 rfl ?_
  simp only [Try.ntmps23, List.size_toArray, List.length_cons, List.length_nil, Nat.reduceAdd, Nat.reduceSub, Array.replicate_succ, Array.replicate_zero, List.push_toArray, List.append_toArray, List.nil_append, List.cons_append]
  go_wp2_with (fail)
  generalize hw1 : w.alloc (.cells #[.bool false] 4) = w1 at *
  generalize hb4 : w.heap.size = b4 at *
  refine (rclone_any _ p.br p.tv p.sv p.g p.xs w1 HR1.out (by omega)).mono ?_
  rintro e w2 ⟨bc, tv, sv, rfl, hr2, hf2⟩
  have HF2 := Lib.hid (HF1.out.trans hf2 (fun _ _ h => h))
  have H42 := Lib.hid (hf2.get H4.out id)
  have hbc := hr2.fb
  have hsz1 : b4 < w1.heap.size := lt_of_heap H4.out
  have HR2 := Lib.hid hr2.exact
  have HRI := Lib.hid (hr2.foot_in)
  have hf3 : Fr (fun _ => False) w2 ((w2.alloc (.cells #[.pointer (some ⟨bc, 0, none⟩)] 26)).alloc (.cells #[.int .i64 0] 3)) := ((Fr.refl _ w2).alloc _).alloc _
  have h5 : ((w2.alloc (.cells #[.pointer (some ⟨bc, 0, none⟩)] 26)).alloc (.cells #[.int .i64 0] 3)).heap[w2.heap.size]? = some (.cells #[.pointer (some ⟨bc, 0, none⟩)] 26 (0, 0)) := (heap_alloc_lt _ _ _ (by simp)).trans (heap_alloc_eq _ _)
  have h6 : ((w2.alloc (.cells #[.pointer (some ⟨bc, 0, none⟩)] 26)).alloc (.cells #[.int .i64 0] 3)).heap[w2.heap.size + 1]? = some (.cells #[.int .i64 0] 3 (0, 0)) := heap_alloc_n _ _ _ (by simp)
  have HF3 := Lib.hid (HF2.out.trans hf3 (fun _ _ h => h))
  have H43 := Lib.hid (hf3.get H42.out id)
  have H53 := Lib.hid h5
  have H63 := Lib.hid h6
  have HR3 := Lib.hid (HR2.out.fr hf3 (fun _ _ _ h => h))
  have hs2 := hf2.size
  have hrn : ∀ k, rfoot bc tv sv k → k < w2.heap.size := fun k hk => hr2.foot_lt (k := k) hk
  have hbcl := lt_of_heap hr2.head
  clear hr2 hf2 hf3 h5 h6 H4 H42 HR1 HR2
  go_wp2_with (fail)
  generalize hb5 : w2.heap.size = b5 at *
  generalize hw3 : (w2.alloc (.cells #[.pointer (some ⟨bc, 0, none⟩)] 26)).alloc (.cells #[.int .i64 0] 3) = w3 at *
  have HP3 := Lib.hid (HP.out.fr HF3.out (fun _ _ h => h))
  have hBc : w3.cell? ⟨Bn, 0, none⟩ = some (.pointer (some ⟨p.bq, 0, none⟩)) := cell_is (HF3.out.get HB.out id) 0 rfl
  have hsz3 := lt_of_heap H63.out
  refine (wpIn_wide (n := 1)).1 ?_
  refine wpIn_rangeNext (gf := 43) (lb := #[.pointer (some ⟨Bn, 0, none⟩)]) rfl (enters_of Try.func43 (by kernel_rfl) rfl)
    (QI.all_gives _ p.bq p.bm Bn p.g w3 p.l p.xs HP3.out.q HP3.out.same (by omega) hBc) KeepBuf.trans (fun W l o o' _ hl ho _ => KeepBuf.putObj W l o o' hl ho) (Below.refl _ _) (fun _ => rfl)
    (fun pre W => W.heap[b5 + 1]? = some (.cells #[.int .i64 (pre.length : Int)] 3 (0, 0)) ∧ Fr (fun k => k = b5 + 1) w3 W) (fun _ _ _ => False) ?own (fun _ _ _ _ _ h _ _ => h) ⟨H63.out, Fr.refl _ _⟩ ?round ?done ?stop
  case own =>
    intro s A B row ⟨h1, h2⟩ hg hr
    exact ⟨(hg.block _ (lt_of_heap h1) (fun e => by have := (hr _ e.symm).1; omega)).trans h1, h2.grown hg (fun k e => .inr (hr k e).1)⟩
  case stop =>
    rintro D c pre W _ _ h _
    exact h.elim
  case round =>
    rintro l pre x V W ⟨hi, hf⟩ hnx
    obtain ⟨hx, hxl⟩ := px_at hnx
    have hr := HR3.out.fr hf (fun k _ hk e => by have := hrn k hk; omega)
    obtain ⟨gt, ct, gs, cs, htv, hsv, ht1, ht2, ht3, ht4, t1, t2⟩ := hr.at hx
    subst htv hsv
    have i0 : W.cell? ⟨b5 + 1, 0, none⟩ = some (.int .i64 (pre.length : Int)) := cell_is hi 0 rfl
    have i1 := frozen_of hi 0
    have i5 : W.cell? ⟨b5, 0, none⟩ = some (.pointer (some ⟨bc, 0, none⟩)) := cell_is (hf.get H53.out (fun e => by omega)) 0 rfl
    have q0 : W.cell? ⟨bc, 0, none⟩ = some (.slice (some ⟨gt, 0, none⟩) p.xs.length ct) := cell_is hr.head 0 rfl
    have q1 : W.cell? ⟨bc, 1, none⟩ = some (.slice (some ⟨gs, 0, none⟩) p.xs.length cs) := cell_is hr.head 1 rfl
    have HI := Lib.hid hi
    have HF := Lib.hid hf
    obtain ⟨xt, xx⟩ := x
    dsimp only at t1 t2
    have hd1 : decide (p.xs.length ≤ pre.length) = false := by simp; omega
    clear hi hf hnx hx hr
    gi_wp2
    refine ⟨trivial, ?_⟩
    gi_wp2
    refine wpIn_region_quiet_round (by kernel_rfl) (by kernel_rfl) (by kernel_rfl) ?_
    repeat (gi_big_quiet_step (fail))
    refine wpQuietIn_nil ?_
    rintro _ ⟨nq, rfl⟩
    gi_wp2
    refine ⟨keeps_drewN (KeepsOthers.setCell (W.drewN nq) _ _), KeepBuf.of_fr (((Fr.refl (fun k => k = b5 + 1) W).drewN nq).setCell (.inl rfl) _) (fun k cs hk hc => ?_), ?_, (HF.out.drewN nq).setCell (.inl rfl) _⟩
    · subst hk
      exact absurd rfl (ne_of_types HI.out hc (by decide))
    · have := heap_setCell_eq (w := W.drewN nq) 0 (.int .i64 ((pre.length : Int) + 1)) HI.out
      simpa using this
  case done =>
    rintro D ys W hD rfl ⟨hi, hf⟩ hK
    have hr := HR3.out.fr hf (fun k _ hk e => by have := hrn k hk; omega)
    obtain ⟨a, c, a', c', htv, hsv⟩ := hr.shapes
    subst htv hsv
    have i0 : W.cell? ⟨b5 + 1, 0, none⟩ = some (.int .i64 (p.xs.length : Int)) := cell_is hi 0 rfl
    have i5 : W.cell? ⟨b5, 0, none⟩ = some (.pointer (some ⟨bc, 0, none⟩)) := cell_is (hf.get H53.out (fun e => by omega)) 0 rfl
    have q0 : W.cell? ⟨bc, 0, none⟩ = some (.slice a p.xs.length c) := cell_is hr.head 0 rfl
    have h4 := hf.get H43.out (fun e => by omega)
    have i4 : W.cell? ⟨b4, 0, none⟩ = some (.bool false) := cell_is h4 0 rfl
    have z4 := frozen_of h4 0
    have HK := Lib.hid hK
    have HF := Lib.hid hf
    have hDo : D ≠ b4 := by omega
    clear hi hf hK hr h4
    go_wp2_with (fail)
    go_still_tail 7, (by kernel_rfl)
    change wpList _ _ _ _ _ W.drew
    go_wp2_with (fail)
    have hK' : (W.setCell ⟨b4, 0, none⟩ (.bool true)).drew.heap[D]? = some (.deferred (some [])) := (heap_setCell_ne _ _ _ _ hDo).trans HK.out
    refine ⟨by simp, .inl ⟨_, _, rfl, run_takeDeferred hK', ?_⟩⟩
    have hc5 : ((W.setCell ⟨b4, 0, none⟩ (.bool true)).drew.putObj D (.deferred none)).cell? ⟨b4, 0, none⟩ = some (.bool true) := by
      rw [cell?_putObj _ _ _ _ (Ne.symm hDo)]
      exact World.cell?_setCell_same' W _ _ (by rw [i4]; rfl)
    have hs3 := HF3.out.size
    refine ⟨.bool true, ?_, rfl, (((HF3.out.trans HF.out (fun k hk e => by omega)).setCell (p := ⟨b4, 0, none⟩) (.inr (show w.heap.size ≤ b4 by omega)) _).drew).putObj (.inr (by omega)) _⟩
    simp [results, Try.f23, go_sem, hc5]

end Go.Proofs.Ytolonoabipnpfaa
