/- The document's heap: Top, Pop, Get, Remove. -/
import Derived.Test.YtikimfdijkejpaaHpRef4
namespace Go.Proofs.Ytikimfdijkejpaa.HT
open Go.RowKit Go.Sb

theorem best_end {key : Int × Int → Int} {M : List (Int × (Int × Int))} {b : Value} (h : Best key M M.length b) (hM : 0 < M.length) : ∃ (j : Nat) (a : Int × (Int × Int)), b = .int .i64 (j : Int) ∧ M[j]? = some a ∧ ∀ c ∈ M, hle key a c := by
  rcases h with ⟨h, _⟩ | ⟨j, a, hb, _, ha, hm⟩
  · omega
  · exact ⟨j, a, hb, ha, by simpa using hm⟩

theorem best_nil {key : Int × Int → Int} {b : Value} (h : Best key [] 0 b) : b = .int .i64 (-1) := by
  rcases h with ⟨_, h⟩ | ⟨j, a, _, hj, _⟩
  · exact h
  · omega

def rfoot (br : Nat) (rv : Value) : Nat → Prop := fun k => k = br ∨ rv.ownBlock = some k

theorem RRp.exact {F : Nat → Prop} {w : World} {br : Nat} {way last : Int} {rv : Value} {M : List (Int × (Int × Int))} (h : RRp F w br way last rv M) : RRp (rfoot br rv) w br way last rv M := by
  refine ⟨h.head, ?_, .inl rfl⟩
  obtain ⟨h1, h2⟩ := h.ls
  refine ⟨h1, h2.imp id ?_⟩
  rintro ⟨g, cap, cur, he, _, r⟩
  exact ⟨g, cap, cur, he, .inr (by rw [he]; rfl), r⟩

theorem RRp.foot_in {F : Nat → Prop} {w : World} {br : Nat} {way last : Int} {rv : Value} {M : List (Int × (Int × Int))} (h : RRp F w br way last rv M) : ∀ k, rfoot br rv k → F k := by
  rintro k (rfl | hk)
  · exact h.fb
  · exact (h.ls.block k hk).1

theorem RRp.foot_cells {F : Nat → Prop} {w : World} {br : Nat} {way last : Int} {rv : Value} {M : List (Int × (Int × Int))} (h : RRp F w br way last rv M) {k : Nat} (hk : rfoot br rv k) : ∃ cs, w.heap[k]? = Option.some (.cells cs 104 (0, 0)) ∨ w.heap[k]? = Option.some (.cells cs 113 (0, 0)) := by
  rcases hk with rfl | hk
  · exact ⟨_, .inl h.head⟩
  · rcases h.ls.2 with ⟨he, _⟩ | ⟨g, cap, cur, he, _, hg, _⟩
    · rw [he] at hk
      cases hk
    · rw [he] at hk
      simp only [Value.ownBlock, Option.some.injEq] at hk
      subst hk
      exact ⟨_, .inr hg⟩

theorem ret_cells {w3 : World} {b : Nat} {u0 u1 : Value} (hx : w3.heap[b]? = some (.cells #[u0, u1] 52 (0, 0))) (r m : Value) :
    ((w3.setCell ⟨b, 0, none⟩ r).setCell ⟨b, 1, none⟩ m).heap[b]? = some (.cells #[r, m] 52 (0, 0)) ∧ ((w3.setCell ⟨b, 0, none⟩ r).setCell ⟨b, 1, none⟩ m).cell? ⟨b, 0, none⟩ = some r ∧ ((w3.setCell ⟨b, 0, none⟩ r).setCell ⟨b, 1, none⟩ m).cell? ⟨b, 1, none⟩ = some m := by
  have h := heap_setCell_eq 1 m (heap_setCell_eq 0 r hx)
  simp only [List.setIfInBounds_toArray, List.set_cons_zero, List.set_cons_succ] at h
  exact ⟨h, cell_is h 0 rfl, cell_is h 1 rfl⟩

section
variable {F : Nat → Prop} {br : Nat} {way last : Int} {rv : Value} {M : List (Int × (Int × Int))} {w : World}

set_option maxRecDepth 100000 in
set_option maxHeartbeats 2000000 in
theorem rtop_none (hw : way = 0 ∨ way = 1 ∨ way = 2) (h : RRp F w br way last rv []) :
    Calls Try.prog 56 #[.pointer (some ⟨br, 0, none⟩)] w fun e w' => e = .returned (.tuple #[.int .i64 0, thV (0, 0), .bool false]) ∧ Fr (fun _ => False) w w' := by
  have hf1 : Fr (fun _ => False) w (w.alloc (.cells #[.int .i64 0, .int .i64 0] 52)) := (Fr.refl _ w).alloc _
  have H1 := Lib.hid (h.fr hf1 (fun _ _ _ h => h))
  have HX := Lib.hid (heap_alloc_eq w (.cells #[.int .i64 0, .int .i64 0] 52))
  have HF1 := Lib.hid hf1
  clear h hf1
  go_enter Try.func56, Try.ntmps56
  go_wp2_with (fail)
  refine (top_any hw H1.out (by simp) List.Pairwise.nil).mono ?_
  rintro e w2 ⟨b, rfl, hb, hf2⟩
  obtain rfl := best_nil hb
  have HF2 := Lib.hid hf2
  clear hb hf2
  go_wp2_with (fail)
  refine (tells_none (br := br) (w := w2)).mono ?_
  rintro e w3 ⟨rfl, hf3⟩
  have hx3 := hf3.get (HF2.out.get HX.out id) id
  have x0 := cell_is hx3 0 rfl
  have x1 := cell_is hx3 1 rfl
  have z0 := frozen_of hx3 0
  have z1 := frozen_of hx3 1
  have HF3 := Lib.hid ((HF1.out.trans HF2.out (fun _ _ h => h)).trans hf3 (fun _ _ h => h))
  have HX3 := Lib.hid hx3
  clear hx3 hf3
  unfold thV
  go_wp2_with (fail)
  obtain ⟨_, y0, y1⟩ := ret_cells HX3.out (.int .i64 0) (.int .i64 0)
  refine bodyPost_ret (v := .tuple #[.int .i64 0, .agg #[.int .i64 0, .int .i64 0], .bool false]) (by simp [results, Try.results56, go_sem, y0, y1]) rfl ⟨rfl, ?_⟩
  exact (HF3.out.setCell (p := ⟨w.heap.size, 0, none⟩) (.inr (Nat.le_refl _)) _).setCell (p := ⟨w.heap.size, 1, none⟩) (.inr (Nat.le_refl _)) _

set_option maxRecDepth 100000 in
set_option maxHeartbeats 2000000 in
theorem rtop_some (hw : way = 0 ∨ way = 1 ∨ way = 2) (h : RRp F w br way last rv M) (hL : M.length ≤ 8796093022208) (hasc : M.Pairwise (fun a b => a.1 < b.1)) (hM : 0 < M.length) :
    Calls Try.prog 56 #[.pointer (some ⟨br, 0, none⟩)] w fun e w' => ∃ (j : Nat) (a : Int × (Int × Int)), e = .returned (.tuple #[.int .i64 a.1, thV a.2, .bool true]) ∧ M[j]? = some a ∧ (∀ c ∈ M, hle (wKey way) a c) ∧ Fr (fun _ => False) w w' := by
  have hf1 : Fr (fun _ => False) w (w.alloc (.cells #[.int .i64 0, .int .i64 0] 52)) := (Fr.refl _ w).alloc _
  have H1 := Lib.hid (h.fr hf1 (fun _ _ _ h => h))
  have HX := Lib.hid (heap_alloc_eq w (.cells #[.int .i64 0, .int .i64 0] 52))
  have HF1 := Lib.hid hf1
  clear h hf1
  go_enter Try.func56, Try.ntmps56
  go_wp2_with (fail)
  refine (top_any hw H1.out hL hasc).mono ?_
  rintro e w2 ⟨b, rfl, hb, hf2⟩
  obtain ⟨j, a, rfl, ha, hmin⟩ := best_end hb hM
  have HF2 := Lib.hid hf2
  have H2 := Lib.hid (H1.out.fr hf2 (fun _ _ _ h => h))
  have HA := Lib.hid ha
  have HM := Lib.hid hmin
  clear hb hf2 ha hmin
  go_wp2_with (fail)
  refine (tells_some H2.out HA.out).mono ?_
  rintro e w3 ⟨rfl, hf3⟩
  have hx3 := hf3.get (HF2.out.get HX.out id) id
  have x0 := cell_is hx3 0 rfl
  have x1 := cell_is hx3 1 rfl
  have z0 := frozen_of hx3 0
  have z1 := frozen_of hx3 1
  have HF3 := Lib.hid ((HF1.out.trans HF2.out (fun _ _ h => h)).trans hf3 (fun _ _ h => h))
  have HX3 := Lib.hid hx3
  clear hx3 hf3
  obtain ⟨ta, ra, ma⟩ := a
  unfold thV
  dsimp only
  go_wp2_with (fail)
  obtain ⟨_, y0, y1⟩ := ret_cells HX3.out (.int .i64 ra) (.int .i64 ma)
  refine bodyPost_ret (v := .tuple #[.int .i64 ta, .agg #[.int .i64 ra, .int .i64 ma], .bool true]) (by simp [results, Try.results56, go_sem, y0, y1]) rfl ⟨j, (ta, (ra, ma)), rfl, HA.out, HM.out, ?_⟩
  exact (HF3.out.setCell (p := ⟨w.heap.size, 0, none⟩) (.inr (Nat.le_refl _)) _).setCell (p := ⟨w.heap.size, 1, none⟩) (.inr (Nat.le_refl _)) _

set_option maxRecDepth 100000 in
set_option maxHeartbeats 2000000 in
theorem rpop_none (hw : way = 0 ∨ way = 1 ∨ way = 2) (h : RRp F w br way last rv []) :
    Calls Try.prog 57 #[.pointer (some ⟨br, 0, none⟩)] w fun e w' => e = .returned (.tuple #[.int .i64 0, thV (0, 0), .bool false]) ∧ Fr (fun _ => False) w w' := by
  have hf1 : Fr (fun _ => False) w (w.alloc (.cells #[.int .i64 0, .int .i64 0] 52)) := (Fr.refl _ w).alloc _
  have H1 := Lib.hid (h.fr hf1 (fun _ _ _ h => h))
  have HX := Lib.hid (heap_alloc_eq w (.cells #[.int .i64 0, .int .i64 0] 52))
  have HF1 := Lib.hid hf1
  clear h hf1
  go_enter Try.func57, Try.ntmps57
  go_wp2_with (fail)
  refine (top_any hw H1.out (by simp) List.Pairwise.nil).mono ?_
  rintro e w2 ⟨b, rfl, hb, hf2⟩
  obtain rfl := best_nil hb
  have HF2 := Lib.hid hf2
  clear hb hf2
  go_wp2_with (fail)
  refine (tells_none (br := br) (w := w2)).mono ?_
  rintro e w3 ⟨rfl, hf3⟩
  have HX3 := Lib.hid (hf3.get (HF2.out.get HX.out id) id)
  have HF3 := Lib.hid ((HF1.out.trans HF2.out (fun _ _ h => h)).trans hf3 (fun _ _ h => h))
  clear hf3
  unfold thV
  go_wp2_with (fail)
  refine (out_neg (br := br) (w := w3.alloc (.cells #[.int .i64 0, .int .i64 0] 52))).mono ?_
  rintro e w4 ⟨rfl, hw4⟩
  have hf4 : Fr (fun _ => False) w3 w4 := by rw [← hw4]; exact (Fr.refl _ w3).alloc _
  have hn4 : w4.heap[w3.heap.size]? = some (.cells #[.int .i64 0, .int .i64 0] 52 (0, 0)) := by rw [← hw4]; exact heap_alloc_eq _ _
  have hx4 := hf4.get HX3.out id
  clear hw4
  have HX4 := Lib.hid hx4
  have HF4 := Lib.hid (HF3.out.trans hf4 (fun _ _ h => h))
  clear hf4
  have x0 := cell_is hx4 0 rfl
  have x1 := cell_is hx4 1 rfl
  have z0 := frozen_of hx4 0
  have z1 := frozen_of hx4 1
  have y0 := cell_is hn4 0 rfl
  have y1 := cell_is hn4 1 rfl
  clear hx4 hn4
  generalize hb3 : w3.heap.size = b3 at *
  generalize hb0 : w.heap.size = b0 at *
  go_wp2_with (fail)
  go_region
  go_wp2_with (fail)
  obtain ⟨_, u0, u1⟩ := ret_cells HX4.out (.int .i64 0) (.int .i64 0)
  refine bodyPost_ret (v := .tuple #[.int .i64 0, .agg #[.int .i64 0, .int .i64 0], .bool false]) (by simp [results, Try.results57, go_sem, u0, u1]) rfl ⟨rfl, ((HF4.out.setCell (p := ⟨b0, 0, none⟩) (.inr (Nat.le_of_eq hb0)) _).setCell (p := ⟨b0, 1, none⟩) (.inr (Nat.le_of_eq hb0)) _).drew⟩

set_option maxRecDepth 100000 in
set_option maxHeartbeats 2000000 in
theorem rpop_some (hw : way = 0 ∨ way = 1 ∨ way = 2) (h : RRp F w br way last rv M) (hL : M.length ≤ 4398046511104) (hasc : M.Pairwise (fun a b => a.1 < b.1)) (hM : 0 < M.length) (hFl : ∀ k, F k → k < w.heap.size) :
    Calls Try.prog 57 #[.pointer (some ⟨br, 0, none⟩)] w fun e w' => ∃ (j : Nat) (a : Int × (Int × Int)), e = .returned (.tuple #[.int .i64 a.1, thV a.2, .bool true]) ∧ M[j]? = some a ∧ (∀ c ∈ M, hle (wKey way) a c) ∧
      (∃ rv', RRp (ex F w) w' br way last rv' (M.eraseIdx j)) ∧ Fr F w w' := by
  have hf1 : Fr (fun _ => False) w (w.alloc (.cells #[.int .i64 0, .int .i64 0] 52)) := (Fr.refl _ w).alloc _
  have H1 := Lib.hid (h.fr hf1 (fun _ _ _ h => h))
  have HX := Lib.hid (heap_alloc_eq w (.cells #[.int .i64 0, .int .i64 0] 52))
  have HF1 := Lib.hid hf1
  clear h hf1
  go_enter Try.func57, Try.ntmps57
  go_wp2_with (fail)
  refine (top_any hw H1.out (by omega) hasc).mono ?_
  rintro e w2 ⟨b, rfl, hb, hf2⟩
  obtain ⟨j, a, rfl, ha, hmin⟩ := best_end hb hM
  have HF2 := Lib.hid hf2
  have H2 := Lib.hid (H1.out.fr hf2 (fun _ _ _ h => h))
  have HA := Lib.hid ha
  have HM := Lib.hid hmin
  have hjl := (List.getElem?_eq_some_iff.1 ha).1
  clear hb hf2 ha hmin
  go_wp2_with (fail)
  refine (tells_some H2.out HA.out).mono ?_
  rintro e w3 ⟨rfl, hf3⟩
  have HX3 := Lib.hid (hf3.get (HF2.out.get HX.out id) id)
  have HF3 := Lib.hid ((HF1.out.trans HF2.out (fun _ _ h => h)).trans hf3 (fun _ _ h => h))
  obtain ⟨ta, ra, ma⟩ := a
  have hfa : Fr (fun _ => False) w3 (w3.alloc (.cells #[.int .i64 ra, .int .i64 ma] 52)) := (Fr.refl _ w3).alloc _
  have H3 := Lib.hid ((H2.out.fr hf3 (fun _ _ _ h => h)).fr hfa (fun _ _ _ h => h))
  have HFA := Lib.hid hfa
  have HN3 := Lib.hid (heap_alloc_eq w3 (.cells #[.int .i64 ra, .int .i64 ma] 52))
  clear hf3 hfa
  unfold thV
  dsimp only
  go_wp2_with (fail)
  refine (out_some H3.out hL hjl).mono ?_
  rintro e w4 ⟨rfl, ⟨rv4, hr4⟩, hfo⟩
  have hnF : ∀ k, w.heap.size ≤ k → ¬ F k := fun k hk hF => by have := hFl k hF; omega
  have hs3 := HF3.out.size
  have hf4 : Fr F w3 w4 := (HFA.out.mono (fun _ _ h => h.elim)).trans hfo (fun _ _ h => h)
  have hn4 := hfo.get HN3.out (hnF _ hs3)
  have hx4 := hf4.get HX3.out (hnF _ (Nat.le_refl _))
  have hsa := HFA.out.size
  have HR4 := Lib.hid hr4
  clear hr4 hfo
  have HX4 := Lib.hid hx4
  have HF4 := Lib.hid ((HF3.out.mono (F' := F) (fun _ _ h => h.elim)).trans hf4 (fun _ _ h => h))
  clear hf4
  have x0 := cell_is hx4 0 rfl
  have x1 := cell_is hx4 1 rfl
  have z0 := frozen_of hx4 0
  have z1 := frozen_of hx4 1
  have y0 := cell_is hn4 0 rfl
  have y1 := cell_is hn4 1 rfl
  clear hx4 hn4
  generalize hb3 : w3.heap.size = b3 at *
  generalize hb0 : w.heap.size = b0 at *
  go_wp2_with (fail)
  go_region
  go_wp2_with (fail)
  obtain ⟨_, u0, u1⟩ := ret_cells HX4.out (.int .i64 ra) (.int .i64 ma)
  refine bodyPost_ret (v := .tuple #[.int .i64 ta, .agg #[.int .i64 ra, .int .i64 ma], .bool true]) (by simp [results, Try.results57, go_sem, u0, u1]) rfl ⟨j, (ta, (ra, ma)), rfl, HA.out, HM.out, ⟨rv4, ?_⟩, ((HF4.out.setCell (p := ⟨b0, 0, none⟩) (.inr (Nat.le_of_eq hb0)) _).setCell (p := ⟨b0, 1, none⟩) (.inr (Nat.le_of_eq hb0)) _).drew⟩
  have hset : Fr (fun k => k = b0) w4 ((w4.setCell ⟨b0, 0, none⟩ (.int .i64 ra)).setCell ⟨b0, 1, none⟩ (.int .i64 ma)).drew := (((Fr.refl (fun k => k = b0) w4).setCell (p := ⟨b0, 0, none⟩) (.inl rfl) _).setCell (p := ⟨b0, 1, none⟩) (.inl rfl) _).drew
  refine (HR4.out.exact.fr hset (fun k _ hk e => ?_)).mono (fun k _ hk => (HR4.out.foot_in k hk).imp id (fun h => by omega))
  subst e
  obtain ⟨cs, hc | hc⟩ := HR4.out.foot_cells hk
  · exact ne_of_types HX4.out hc (by decide) rfl
  · exact ne_of_types HX4.out hc (by decide) rfl

set_option maxRecDepth 100000 in
set_option maxHeartbeats 2000000 in
theorem rget_none (h : RRp F w br way last rv M) (hL : M.length ≤ 8796093022208) {t : Int} (ht : ∀ p ∈ M, p.1 ≠ t) :
    Calls Try.prog 58 #[.pointer (some ⟨br, 0, none⟩), .int .i64 t] w fun e w' => e = .returned (.tuple #[thV (0, 0), .bool false]) ∧ Fr (fun _ => False) w w' := by
  have hf1 : Fr (fun _ => False) w (w.alloc (.cells #[.int .i64 0, .int .i64 0] 52)) := (Fr.refl _ w).alloc _
  have H1 := Lib.hid (h.fr hf1 (fun _ _ _ h => h))
  have HX := Lib.hid (heap_alloc_eq w (.cells #[.int .i64 0, .int .i64 0] 52))
  have HF1 := Lib.hid hf1
  clear h hf1
  have HT := Lib.hid ht
  clear ht
  go_enter Try.func58, Try.ntmps58
  go_wp2_with (fail)
  refine (place_none H1.out hL HT.out).mono ?_
  rintro e w2 ⟨rfl, rfl⟩
  go_wp2_with (fail)
  refine (tells_none (br := br)).mono ?_
  rintro e w3 ⟨rfl, hf3⟩
  have hf4 : Fr (fun _ => False) w3 (w3.alloc (.cells #[.int .i64 0, .int .i64 0] 52)) := (Fr.refl _ w3).alloc _
  have hn4 := heap_alloc_eq w3 (.cells #[.int .i64 0, .int .i64 0] 52)
  have hx4 := hf4.get (hf3.get HX.out id) id
  have HF3 := Lib.hid (HF1.out.trans hf3 (fun _ _ h => h))
  clear hf3
  unfold thV
  have HX4 := Lib.hid hx4
  have HF4 := Lib.hid (HF3.out.trans hf4 (fun _ _ h => h))
  clear hf4
  have x0 := cell_is hx4 0 rfl
  have x1 := cell_is hx4 1 rfl
  have z0 := frozen_of hx4 0
  have z1 := frozen_of hx4 1
  have y0 := cell_is hn4 0 rfl
  have y1 := cell_is hn4 1 rfl
  clear hx4 hn4
  generalize hb0 : w.heap.size = b0 at *
  go_wp2_with (fail)
  generalize hw4 : w3.alloc (.cells #[.int .i64 0, .int .i64 0] 52) = w4 at *
  obtain ⟨_, u0, u1⟩ := ret_cells HX4.out (.int .i64 0) (.int .i64 0)
  refine bodyPost_ret (v := .tuple #[.agg #[.int .i64 0, .int .i64 0], .bool false]) (by simp [results, Try.results58, go_sem, u0, u1]) rfl ⟨rfl, ((HF4.out.setCell (p := ⟨b0, 0, none⟩) (.inr (Nat.le_of_eq hb0)) _).setCell (p := ⟨b0, 1, none⟩) (.inr (Nat.le_of_eq hb0)) _)⟩

set_option maxRecDepth 100000 in
set_option maxHeartbeats 2000000 in
theorem rget_some (h : RRp F w br way last rv M) (hL : M.length ≤ 8796093022208) {t : Int} {x : Int × Int} {us vs : List (Int × (Int × Int))} (hl : M = us ++ (t, x) :: vs) (ht : ∀ p ∈ us, p.1 ≠ t) :
    Calls Try.prog 58 #[.pointer (some ⟨br, 0, none⟩), .int .i64 t] w fun e w' => e = .returned (.tuple #[thV x, .bool true]) ∧ Fr (fun _ => False) w w' := by
  have hf1 : Fr (fun _ => False) w (w.alloc (.cells #[.int .i64 0, .int .i64 0] 52)) := (Fr.refl _ w).alloc _
  have H1 := Lib.hid (h.fr hf1 (fun _ _ _ h => h))
  have HX := Lib.hid (heap_alloc_eq w (.cells #[.int .i64 0, .int .i64 0] 52))
  have HF1 := Lib.hid hf1
  clear h hf1
  have HT := Lib.hid ht
  have HE := Lib.hid hl
  have HI := Lib.hid (show M[us.length]? = some (t, x) by rw [hl, List.getElem?_append_right (Nat.le_refl _)]; simp)
  clear ht hl
  go_enter Try.func58, Try.ntmps58
  go_wp2_with (fail)
  refine (place_some H1.out hL HE.out HT.out).mono ?_
  rintro e w2 ⟨rfl, rfl⟩
  go_wp2_with (fail)
  refine (tells_some H1.out HI.out).mono ?_
  rintro e w3 ⟨rfl, hf3⟩
  obtain ⟨ra, ma⟩ := x
  have hf4 : Fr (fun _ => False) w3 (w3.alloc (.cells #[.int .i64 ra, .int .i64 ma] 52)) := (Fr.refl _ w3).alloc _
  have hn4 := heap_alloc_eq w3 (.cells #[.int .i64 ra, .int .i64 ma] 52)
  have hx4 := hf4.get (hf3.get HX.out id) id
  have HF3 := Lib.hid (HF1.out.trans hf3 (fun _ _ h => h))
  clear hf3
  unfold thV
  dsimp only
  have HX4 := Lib.hid hx4
  have HF4 := Lib.hid (HF3.out.trans hf4 (fun _ _ h => h))
  clear hf4
  have x0 := cell_is hx4 0 rfl
  have x1 := cell_is hx4 1 rfl
  have z0 := frozen_of hx4 0
  have z1 := frozen_of hx4 1
  have y0 := cell_is hn4 0 rfl
  have y1 := cell_is hn4 1 rfl
  clear hx4 hn4
  generalize hb0 : w.heap.size = b0 at *
  go_wp2_with (fail)
  generalize hw4 : w3.alloc (.cells #[.int .i64 ra, .int .i64 ma] 52) = w4 at *
  obtain ⟨_, u0, u1⟩ := ret_cells HX4.out (.int .i64 ra) (.int .i64 ma)
  refine bodyPost_ret (v := .tuple #[.agg #[.int .i64 ra, .int .i64 ma], .bool true]) (by simp [results, Try.results58, go_sem, u0, u1]) rfl ⟨rfl, ((HF4.out.setCell (p := ⟨b0, 0, none⟩) (.inr (Nat.le_of_eq hb0)) _).setCell (p := ⟨b0, 1, none⟩) (.inr (Nat.le_of_eq hb0)) _)⟩

set_option maxRecDepth 100000 in
set_option maxHeartbeats 2000000 in
theorem rremove_none (h : RRp F w br way last rv M) (hL : M.length ≤ 8796093022208) {t : Int} (ht : ∀ p ∈ M, p.1 ≠ t) :
    Calls Try.prog 59 #[.pointer (some ⟨br, 0, none⟩), .int .i64 t] w fun e w' => e = .returned (.tuple #[thV (0, 0), .bool false]) ∧ Fr (fun _ => False) w w' := by
  have hf1 : Fr (fun _ => False) w (w.alloc (.cells #[.int .i64 0, .int .i64 0] 52)) := (Fr.refl _ w).alloc _
  have H1 := Lib.hid (h.fr hf1 (fun _ _ _ h => h))
  have HX := Lib.hid (heap_alloc_eq w (.cells #[.int .i64 0, .int .i64 0] 52))
  have HF1 := Lib.hid hf1
  clear h hf1
  have HT := Lib.hid ht
  clear ht
  go_enter Try.func59, Try.ntmps59
  go_wp2_with (fail)
  refine (place_none H1.out hL HT.out).mono ?_
  rintro e w2 ⟨rfl, rfl⟩
  go_wp2_with (fail)
  refine (tells_none (br := br)).mono ?_
  rintro e w3 ⟨rfl, hf3⟩
  have HX3 := Lib.hid (hf3.get HX.out id)
  have HF3 := Lib.hid (HF1.out.trans hf3 (fun _ _ h => h))
  clear hf3
  unfold thV
  go_wp2_with (fail)
  refine (out_neg (br := br) (w := w3.alloc (.cells #[.int .i64 0, .int .i64 0] 52))).mono ?_
  rintro e w4 ⟨rfl, hw4⟩
  have hf4 : Fr (fun _ => False) w3 w4 := by rw [← hw4]; exact (Fr.refl _ w3).alloc _
  have hn4 : w4.heap[w3.heap.size]? = some (.cells #[.int .i64 0, .int .i64 0] 52 (0, 0)) := by rw [← hw4]; exact heap_alloc_eq _ _
  have hx4 := hf4.get HX3.out id
  clear hw4
  have HX4 := Lib.hid hx4
  have HF4 := Lib.hid (HF3.out.trans hf4 (fun _ _ h => h))
  clear hf4
  have x0 := cell_is hx4 0 rfl
  have x1 := cell_is hx4 1 rfl
  have z0 := frozen_of hx4 0
  have z1 := frozen_of hx4 1
  have y0 := cell_is hn4 0 rfl
  have y1 := cell_is hn4 1 rfl
  clear hx4 hn4
  generalize hb3 : w3.heap.size = b3 at *
  generalize hb0 : w.heap.size = b0 at *
  go_wp2_with (fail)
  obtain ⟨_, u0, u1⟩ := ret_cells HX4.out (.int .i64 0) (.int .i64 0)
  refine bodyPost_ret (v := .tuple #[.agg #[.int .i64 0, .int .i64 0], .bool false]) (by simp [results, Try.results59, go_sem, u0, u1]) rfl ⟨rfl, ((HF4.out.setCell (p := ⟨b0, 0, none⟩) (.inr (Nat.le_of_eq hb0)) _).setCell (p := ⟨b0, 1, none⟩) (.inr (Nat.le_of_eq hb0)) _)⟩

set_option maxRecDepth 100000 in
set_option maxHeartbeats 2000000 in
theorem rremove_some (h : RRp F w br way last rv M) (hL : M.length ≤ 4398046511104) {t : Int} {x : Int × Int} {us vs : List (Int × (Int × Int))} (hl : M = us ++ (t, x) :: vs) (ht : ∀ p ∈ us, p.1 ≠ t) (hFl : ∀ k, F k → k < w.heap.size) :
    Calls Try.prog 59 #[.pointer (some ⟨br, 0, none⟩), .int .i64 t] w fun e w' => e = .returned (.tuple #[thV x, .bool true]) ∧ (∃ rv', RRp (ex F w) w' br way last rv' (M.eraseIdx us.length)) ∧ Fr F w w' := by
  have hf1 : Fr (fun _ => False) w (w.alloc (.cells #[.int .i64 0, .int .i64 0] 52)) := (Fr.refl _ w).alloc _
  have H1 := Lib.hid (h.fr hf1 (fun _ _ _ h => h))
  have HX := Lib.hid (heap_alloc_eq w (.cells #[.int .i64 0, .int .i64 0] 52))
  have HF1 := Lib.hid hf1
  clear h hf1
  have HT := Lib.hid ht
  have HE := Lib.hid hl
  have HI := Lib.hid (show M[us.length]? = some (t, x) by rw [hl, List.getElem?_append_right (Nat.le_refl _)]; simp)
  have hjl : us.length < M.length := by rw [hl]; simp
  clear ht hl
  go_enter Try.func59, Try.ntmps59
  go_wp2_with (fail)
  refine (place_some H1.out (by omega) HE.out HT.out).mono ?_
  rintro e w2 ⟨rfl, rfl⟩
  go_wp2_with (fail)
  refine (tells_some H1.out HI.out).mono ?_
  rintro e w3 ⟨rfl, hf3⟩
  have HX3 := Lib.hid (hf3.get HX.out id)
  have HF3 := Lib.hid (HF1.out.trans hf3 (fun _ _ h => h))
  obtain ⟨ra, ma⟩ := x
  have hfa : Fr (fun _ => False) w3 (w3.alloc (.cells #[.int .i64 ra, .int .i64 ma] 52)) := (Fr.refl _ w3).alloc _
  have H3 := Lib.hid ((H1.out.fr hf3 (fun _ _ _ h => h)).fr hfa (fun _ _ _ h => h))
  have HFA := Lib.hid hfa
  have HN3 := Lib.hid (heap_alloc_eq w3 (.cells #[.int .i64 ra, .int .i64 ma] 52))
  clear hf3 hfa
  unfold thV
  dsimp only
  go_wp2_with (fail)
  refine (out_some H3.out hL hjl).mono ?_
  rintro e w4 ⟨rfl, ⟨rv4, hr4⟩, hfo⟩
  have hnF : ∀ k, w.heap.size ≤ k → ¬ F k := fun k hk hF => by have := hFl k hF; omega
  have hs3 := HF3.out.size
  have hf4 : Fr F w3 w4 := (HFA.out.mono (fun _ _ h => h.elim)).trans hfo (fun _ _ h => h)
  have hn4 := hfo.get HN3.out (hnF _ hs3)
  have hx4 := hf4.get HX3.out (hnF _ (Nat.le_refl _))
  have hsa := HFA.out.size
  have HR4 := Lib.hid hr4
  clear hr4 hfo
  have HX4 := Lib.hid hx4
  have HF4 := Lib.hid ((HF3.out.mono (F' := F) (fun _ _ h => h.elim)).trans hf4 (fun _ _ h => h))
  clear hf4
  have x0 := cell_is hx4 0 rfl
  have x1 := cell_is hx4 1 rfl
  have z0 := frozen_of hx4 0
  have z1 := frozen_of hx4 1
  have y0 := cell_is hn4 0 rfl
  have y1 := cell_is hn4 1 rfl
  clear hx4 hn4
  generalize hb3 : w3.heap.size = b3 at *
  generalize hb0 : w.heap.size = b0 at *
  go_wp2_with (fail)
  obtain ⟨_, u0, u1⟩ := ret_cells HX4.out (.int .i64 ra) (.int .i64 ma)
  refine bodyPost_ret (v := .tuple #[.agg #[.int .i64 ra, .int .i64 ma], .bool true]) (by simp [results, Try.results59, go_sem, u0, u1]) rfl ⟨rfl, ⟨rv4, ?_⟩, ((HF4.out.setCell (p := ⟨b0, 0, none⟩) (.inr (Nat.le_of_eq hb0)) _).setCell (p := ⟨b0, 1, none⟩) (.inr (Nat.le_of_eq hb0)) _)⟩
  have hset : Fr (fun k => k = b0) w4 ((w4.setCell ⟨b0, 0, none⟩ (.int .i64 ra)).setCell ⟨b0, 1, none⟩ (.int .i64 ma)) := ((Fr.refl (fun k => k = b0) w4).setCell (p := ⟨b0, 0, none⟩) (.inl rfl) _).setCell (p := ⟨b0, 1, none⟩) (.inl rfl) _
  refine (HR4.out.exact.fr hset (fun k _ hk e => ?_)).mono (fun k _ hk => (HR4.out.foot_in k hk).imp id (fun h => by omega))
  subst e
  obtain ⟨cs, hc | hc⟩ := HR4.out.foot_cells hk
  · exact ne_of_types HX4.out hc (by decide) rfl
  · exact ne_of_types HX4.out hc (by decide) rfl

end
end Go.Proofs.Ytikimfdijkejpaa.HT
