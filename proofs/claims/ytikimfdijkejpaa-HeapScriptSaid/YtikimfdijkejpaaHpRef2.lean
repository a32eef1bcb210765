/- The document's heap: Push, Change, Clone, out. -/
import Derived.Test.YtikimfdijkejpaaHpRef
import Derived.Test.YtikimfdijkejpaaHTChange
import Derived.Deep.RegionLaw
namespace Go.Proofs.Ytikimfdijkejpaa.HT
open Go.RowKit Go.Sb

theorem infoR : (Try.prog.info? 113).map (fun i => (i.zero, i.size, i.bytes)) = some (some (.agg #[.int .i64 0, .int .i64 0, .int .i64 0]), 3, 24) := by kernel_rfl

theorem src_enR (w : World) (t : Int) (x : Int × Int) : Src (w.alloc (.cells #[.int .i64 t, .int .i64 x.1, .int .i64 x.2] 113)) (.slice (some ⟨w.heap.size, 0, none⟩) 1 1) 1 3 (allc [en (t, x)]) := by
  refine ⟨rfl, ?_, .inr ⟨_, _, rfl, ?_⟩⟩
  · intro u hu
    simp [allc, ecells, en] at hu
    rcases hu with rfl | rfl | rfl <;> rfl
  · intro j u hj
    have ha : (⟨w.heap.size, 0, none⟩ : Addr).add j = ⟨w.heap.size, j, none⟩ := by unfold Addr.add; split <;> simp_all
    rw [ha, cell_of (heap_alloc_eq w _)]
    simpa [allc, ecells, en] using hj

/-- The list grew by one, and the head holds what it grew into. -/
theorem rrp_grown {F : Nat → Prop} {br : Nat} {way last last' : Int} {rv v3 : Value} {M N : List (Int × (Int × Int))} {w a b : World} (h : RRp F w br way last rv M) (ha : Fr (fun k => k = br) w a)
    (hb : b.heap[br]? = some (.cells #[.int .i64 way, .int .i64 last', rv] 104 (0, 0))) (hv : Own 113 3 (ex F a) b v3 N.length (allc (N.map en))) (hf : Fr (fun k => rv.ownBlock = some k) a b) :
    RRp (ex F w) (b.setCell ⟨br, 2, none⟩ v3) br way last' v3 N ∧ Fr F w (b.setCell ⟨br, 2, none⟩ v3) := by
  have hset := heap_setCell_eq 2 v3 hb
  simp only [List.setIfInBounds_toArray, List.set_cons_zero, List.set_cons_succ] at hset
  have hno := own_neT hb (by decide) hv
  refine ⟨⟨hset, (hv.of (fun k _ hk => heap_setCell_ne _ _ _ _ (fun e => hno (by rw [hk, e])))).mono (fun k _ hk => hk.imp id (Nat.le_trans ha.size)), .inl h.fb⟩, ?_⟩
  exact ((ha.mono (fun k _ e => e ▸ h.fb)).trans hf (fun k _ hk => (h.ls.block k hk).1)).setCell (.inl h.fb) _

set_option maxRecDepth 100000 in
set_option maxHeartbeats 1000000 in
theorem rpush_any {F : Nat → Prop} {br : Nat} {way last : Int} {rv : Value} {M : List (Int × (Int × Int))} {w : World} (x : Int × Int) (h : RRp F w br way last rv M) (hg0 : 0 ≤ last) (hg1 : last ≤ 8796093022207) (hL : M.length ≤ 4398046511104) :
    Calls Try.prog 55 #[.pointer (some ⟨br, 0, none⟩), thV x] w fun e w' => e = .returned (.int .i64 (last + 1)) ∧ (∃ rv', RRp (ex F w) w' br way (last + 1) rv' (M ++ [(last + 1, x)])) ∧ Fr F w w' := by
  obtain ⟨ad, cap, rfl, hcap⟩ := h.shape
  have c1 : w.cell? ⟨br, 1, none⟩ = some (.int .i64 last) := cell_is h.head 1 rfl
  have f1 := frozen_of h.head 1
  have hlt := lt_of_heap h.head
  have H := Lib.hid h
  clear h
  obtain ⟨ra, ma⟩ := x
  unfold thV
  go_enter Try.func55, Try.ntmps55
  go_wp2_with (fail)
  have hf1 : Fr (fun k => k = br) w ((w.setCell ⟨br, 1, none⟩ (.int .i64 (last + 1))).alloc (.cells #[.int .i64 ra, .int .i64 ma] 52)) := ((Fr.refl (fun k => k = br) w).setCell (p := ⟨br, 1, none⟩) (.inl rfl) _).alloc _
  have hh1 : ((w.setCell ⟨br, 1, none⟩ (.int .i64 (last + 1))).alloc (.cells #[.int .i64 ra, .int .i64 ma] 52)).heap[br]? = some (.cells #[.int .i64 way, .int .i64 (last + 1), .slice ad M.length cap] 104 (0, 0)) := by
    rw [heap_alloc_lt _ _ _ (by simpa using hlt)]
    simpa using heap_setCell_eq 1 (.int .i64 (last + 1)) H.out.head
  have hx1 : ((w.setCell ⟨br, 1, none⟩ (.int .i64 (last + 1))).alloc (.cells #[.int .i64 ra, .int .i64 ma] 52)).heap[w.heap.size]? = some (.cells #[.int .i64 ra, .int .i64 ma] 52 (0, 0)) := by
    have := heap_alloc_eq (w.setCell ⟨br, 1, none⟩ (.int .i64 (last + 1))) (.cells #[.int .i64 ra, .int .i64 ma] 52)
    rwa [World.size_setCell] at this
  generalize (w.setCell ⟨br, 1, none⟩ (.int .i64 (last + 1))).alloc (.cells #[.int .i64 ra, .int .i64 ma] 52) = w1 at *
  have hl1 := H.out.ls.of (fun k hk hb => hf1.block k hk (fun e => own_neT H.out.head (by decide) H.out.ls (by rw [hb, e])))
  have HF1 := Lib.hid hf1
  have HH1 := Lib.hid hh1
  have HL1 := Lib.hid hl1
  have hno := own_neT hh1 (by decide) hl1
  have b1 : w1.cell? ⟨br, 1, none⟩ = some (.int .i64 (last + 1)) := cell_is hh1 1 rfl
  have b2 : w1.cell? ⟨br, 2, none⟩ = some (.slice ad M.length cap) := cell_is hh1 2 rfl
  have x0 : w1.cell? ⟨w.heap.size, 0, none⟩ = some (.int .i64 ra) := cell_is hx1 0 rfl
  have x1 : w1.cell? ⟨w.heap.size, 1, none⟩ = some (.int .i64 ma) := cell_is hx1 1 rfl
  have hbl := lt_of_heap hh1
  have hxl := lt_of_heap hx1
  clear hf1 hh1 hl1 hx1 c1 f1
  have hsrc := src_enR w1.drew (last + 1) (ra, ma)
  have hoa : Own 113 3 F (w1.drew.alloc (.cells #[.int .i64 (last + 1), .int .i64 ra, .int .i64 ma] 113)) (.slice ad M.length cap) M.length (allc (M.map en)) := HL1.out.drew.alloc _
  go_region_law (refine step_append_Own rfl _ _ 102 rfl 113 (.agg #[.int .i64 0, .int .i64 0, .int .i64 0]) 3 24 Try.underlying102 infoR rfl (by decide) (.slice ad M.length cap) M.length (allc (M.map en)) rfl hoa (.slice (some ⟨w1.drew.heap.size, 0, none⟩) 1 1) 1 (allc [en (last + 1, (ra, ma))]) rfl hsrc (by unfold maxLen; omega) (by omega) ?_; intro v3 w3 hv3 hf3 hn3 hd3; have hh3 : w3.heap[br]? = some (.cells #[.int .i64 way, .int .i64 (last + 1), .slice ad M.length cap] 104 (0, 0)) := hf3.get ((heap_alloc_lt _ _ _ hbl).trans HH1.out) hno; have hc3 : w3.cell? ⟨br, 2, none⟩ = some (.slice ad M.length cap) := cell_is hh3 2 rfl; have hc4 : w3.cell? ⟨br, 1, none⟩ = some (.int .i64 (last + 1)) := cell_is hh3 1 rfl; have hz3 := frozen_of hh3 2; obtain ⟨g3, k3, rfl, _, _⟩ := own_some hv3 (by omega); have HV3 := Lib.hid hv3; have HF3 := Lib.hid hf3; have HH3 := Lib.hid hh3; clear hv3 hf3 hn3 hd3 hh3)
  all_goals
    go_wp2_with (fail)
    go_ret
    have hv := HV3.out
    rw [show (M.length + 1) = (M ++ [((last + 1, (ra, ma)) : Int × (Int × Int))]).length by simp, show allc (M.map en) ++ allc [en (last + 1, (ra, ma))] = allc ((M ++ [(last + 1, (ra, ma))]).map en) by simp [allc]] at hv
    obtain ⟨r1, r2⟩ := rrp_grown H.out ((HF1.out.drew).alloc _) HH3.out hv HF3.out
    exact ⟨rfl, ⟨_, by simpa using r1⟩, by simpa using r2⟩

set_option maxRecDepth 100000 in
set_option maxHeartbeats 1000000 in
theorem rchange_none {F : Nat → Prop} {br : Nat} {way last t : Int} {rv : Value} {M : List (Int × (Int × Int))} {w : World} (x : Int × Int) (h : RRp F w br way last rv M) (hL : M.length ≤ 8796093022208) (ht : ∀ p ∈ M, p.1 ≠ t) :
    Calls Try.prog 60 #[.pointer (some ⟨br, 0, none⟩), .int .i64 t, thV x] w fun e w' => e = .returned (.bool false) ∧ Fr (fun _ => False) w w' := by
  obtain ⟨ra, ma⟩ := x
  unfold thV
  have f1 : Fr (fun _ => False) w (w.alloc (.cells #[.int .i64 ra, .int .i64 ma] 52)) := (Fr.refl _ w).alloc _
  have H1 := Lib.hid (h.fr f1 (fun _ _ _ h => h))
  have HT := Lib.hid ht
  have HF1 := Lib.hid f1
  clear h f1 ht
  go_enter Try.func60, Try.ntmps60
  go_wp2_with (fail)
  refine (place_none H1.out hL HT.out).mono ?_
  rintro e w2 ⟨rfl, rfl⟩
  go_wp2_with (fail)
  go_ret
  exact ⟨rfl, HF1.out⟩

set_option maxRecDepth 100000 in
set_option maxHeartbeats 1000000 in
theorem rchange_some {F : Nat → Prop} {br : Nat} {way last t : Int} {rv : Value} {M us vs : List (Int × (Int × Int))} {x0 : Int × Int} {w : World} (x : Int × Int) (h : RRp F w br way last rv M) (hL : M.length ≤ 8796093022208) (hl : M = us ++ (t, x0) :: vs) (ht : ∀ p ∈ us, p.1 ≠ t) :
    Calls Try.prog 60 #[.pointer (some ⟨br, 0, none⟩), .int .i64 t, thV x] w fun e w' => e = .returned (.bool true) ∧ RRp F w' br way last rv (M.set us.length (t, x)) ∧ Fr F w w' := by
  obtain ⟨ra, ma⟩ := x
  unfold thV
  have hul : us.length < M.length := by rw [hl]; simp
  have hi : M[us.length]? = some (t, x0) := by rw [hl, List.getElem?_append_right (Nat.le_refl _)]; simp
  obtain ⟨gg, cap, rfl, hcap, hmax⟩ := h.some (by omega)
  have f1 : Fr (fun _ => False) w (w.alloc (.cells #[.int .i64 ra, .int .i64 ma] 52)) := (Fr.refl _ w).alloc _
  have hx := heap_alloc_eq w (.cells #[.int .i64 ra, .int .i64 ma] 52)
  have h1 := h.fr f1 (fun _ _ _ h => h)
  obtain ⟨i0, i1, i2⟩ := en_cellsE h1.ls hi
  have y1 := h1.ls.frozen (g := gg) rfl (us.length * 3 + 1)
  have y2 := h1.ls.frozen (g := gg) rfl (us.length * 3 + 2)
  have d1 : (w.alloc (.cells #[.int .i64 ra, .int .i64 ma] 52)).cell? ⟨br, 2, none⟩ = some (.slice (some ⟨gg, 0, none⟩) M.length cap) := cell_is h1.head 2 rfl
  have xa := cell_is hx 0 rfl
  have xb := cell_is hx 1 rfl
  have H1 := Lib.hid h1
  have HE := Lib.hid hl
  have HI := Lib.hid hi
  have HT := Lib.hid ht
  have HF1 := Lib.hid f1
  clear h f1 hl ht h1 hi hx
  unfold maxLen at hmax
  go_enter Try.func60, Try.ntmps60
  go_wp2_with (fail)
  generalize hw1 : w.alloc (.cells #[.int .i64 ra, .int .i64 ma] 52) = w1 at *
  clear hw1
  refine (place_some H1.out hL HE.out HT.out).mono ?_
  rintro e w2 ⟨rfl, rfl⟩
  go_wp2_with (fail)
  go_still_tail 8, (by kernel_rfl)
  change wpList _ _ _ _ _ w1.drew
  go_wp2_with (fail)
  go_ret
  have hgF := (H1.out.ls.block gg rfl).1
  have hf2 : Fr (fun k => k = gg) w1 ((w1.setCell ⟨gg, us.length * 3 + 1, none⟩ (.int .i64 ra)).setCell ⟨gg, us.length * 3 + 2, none⟩ (.int .i64 ma)).drew := (((Fr.refl (fun k => k = gg) w1).setCell (p := ⟨gg, us.length * 3 + 1, none⟩) (.inl rfl) _).setCell (p := ⟨gg, us.length * 3 + 2, none⟩) (.inl rfl) _).drew
  refine ⟨rfl, ⟨hf2.get H1.out.head (fun e => own_neT H1.out.head (by decide) H1.out.ls (by rw [e]; rfl)), ?_, H1.out.fb⟩, (HF1.out.mono (fun _ _ h => h.elim)).trans hf2 (fun k _ e => e ▸ hgF)⟩
  have h2 := (H1.out.ls.setAt (g := gg) rfl (k := us.length * 3 + 1) (by omega) (.int .i64 ra)).setAt (g := gg) rfl (k := us.length * 3 + 2) (by omega) (.int .i64 ma)
  have h3 : (allc (M.map en)).set (us.length * 3) (.int .i64 t) = allc (M.map en) := set_self ((allc_at _ (en_wid M) us.length (en (t, x0)) (by rw [List.getElem?_map, HI.out]; rfl) 0 (by decide)).trans rfl)
  rw [← h3, allc_set3 _ (en_wid M) us.length t _ _ (by simpa using hul)] at h2
  rw [List.length_set, List.map_set]
  exact h2

theorem allc_oneE {L : List (Int × (Int × Int))} : ∀ u ∈ allc (L.map en), u.oneCell' = true := allc_one

set_option maxRecDepth 100000 in
set_option maxHeartbeats 1000000 in
theorem rclone_any {F : Nat → Prop} {br : Nat} {way last : Int} {rv : Value} {M : List (Int × (Int × Int))} {w : World} (h : RRp F w br way last rv M) (hL : M.length ≤ 8796093022208) :
    Calls Try.prog 81 #[.pointer (some ⟨br, 0, none⟩)] w fun e w' => ∃ bc rv', e = .returned (.pointer (some ⟨bc, 0, none⟩)) ∧ RRp (fun k => w.heap.size ≤ k) w' bc way last rv' M ∧ Fr (fun _ => False) w w' := by
  obtain ⟨ad, cap, rfl, hcap⟩ := h.shape
  have c0 : w.cell? ⟨br, 0, none⟩ = some (.int .i64 way) := cell_is h.head 0 rfl
  have c1 : w.cell? ⟨br, 1, none⟩ = some (.int .i64 last) := cell_is h.head 1 rfl
  have hlt := lt_of_heap h.head
  have H := Lib.hid h
  clear h
  go_enter Try.func81, Try.ntmps81
  go_wp2_with (fail)
  go_region
  have hf1 : Fr (fun _ => False) w (w.alloc (.cells #[.int .i64 way, .int .i64 last, .slice none 0 0] 104)).drew := ((Fr.refl _ w).alloc _).drew
  have hh1 : (w.alloc (.cells #[.int .i64 way, .int .i64 last, .slice none 0 0] 104)).drew.heap[w.heap.size]? = some (.cells #[.int .i64 way, .int .i64 last, .slice none 0 0] 104 (0, 0)) := heap_alloc_eq w _
  have HF1 := Lib.hid hf1
  have HH1 := Lib.hid hh1
  have H1 := Lib.hid (H.out.fr hf1 (fun _ _ _ h => h))
  clear hf1 hh1 c0 c1
  generalize (w.alloc (.cells #[.int .i64 way, .int .i64 last, .slice none 0 0] 104)).drew = w1 at *
  generalize hbc : w.heap.size = bc at *
  have e2 : w1.cell? ⟨bc, 2, none⟩ = some (.slice none 0 0) := cell_is HH1.out 2 rfl
  have r2 : w1.cell? ⟨br, 2, none⟩ = some (.slice ad M.length cap) := cell_is H1.out.head 2 rfl
  have hbl := lt_of_heap HH1.out
  have hsrc : Src w1.drew (.slice ad M.length cap) M.length 3 (allc (M.map en)) := own_src H1.out.ls.drew allc_one
  go_wp2_with (fail)
  go_region_law (refine step_append_Own rfl _ _ 102 rfl 113 (.agg #[.int .i64 0, .int .i64 0, .int .i64 0]) 3 24 Try.underlying102 infoR rfl (by decide) (.slice none 0 0) 0 [] rfl (Own.nil 113 3 (fun k => bc ≤ k) _) (.slice ad M.length cap) M.length (allc (M.map en)) rfl hsrc (by unfold maxLen; omega) (by omega) ?_; intro v3 w3 hv3 hf3 hn3 hd3; have hf3' : Fr (fun _ => False) w1.drew w3 := hf3.mono (fun k _ h => by cases h); have hh3 : w3.heap[bc]? = some (.cells #[.int .i64 way, .int .i64 last, .slice none 0 0] 104 (0, 0)) := hf3'.get (show w1.drew.heap[bc]? = _ from HH1.out) id; have hc3 : w3.cell? ⟨bc, 2, none⟩ = some (.slice none 0 0) := cell_is hh3 2 rfl; have hz3 := frozen_of hh3 2; obtain ⟨a3, n3, k3, rfl⟩ := own_slice hv3; have HV3 := Lib.hid hv3; have HF3 := Lib.hid hf3'; have HH3 := Lib.hid hh3; clear hv3 hf3 hn3 hd3 hh3 hf3')
  all_goals
    go_wp2_with (fail)
    go_ret
    have hv := HV3.out
    rw [Nat.zero_add, List.nil_append] at hv
    have hset := heap_setCell_eq 2 (.slice a3 n3 k3) HH3.out
    simp only [List.setIfInBounds_toArray, List.set_cons_zero, List.set_cons_succ] at hset
    have hno := own_neT HH3.out (by decide) hv
    have hs1 := HF1.out.size
    exact ⟨bc, .slice a3 n3 k3, rfl, ⟨hset, (hv.of (fun k _ hk => heap_setCell_ne _ _ _ _ (fun e => hno (by rw [hk, e])))).mono (fun k _ hk => by
      show w.heap.size ≤ k
      rcases hk with hk | hk
      · rw [hbc]; exact hk
      · exact Nat.le_trans hs1 hk), by show w.heap.size ≤ bc; omega⟩, ((HF1.out.drew).trans HF3.out (fun _ _ h => h)).setCell (p := ⟨bc, 2, none⟩) (.inr (by show w.heap.size ≤ bc; omega)) _⟩

end Go.Proofs.Ytikimfdijkejpaa.HT
