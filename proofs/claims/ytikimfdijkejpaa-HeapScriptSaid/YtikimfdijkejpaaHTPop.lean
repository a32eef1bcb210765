/- The heap at one type of things: Pop, Remove. -/
import Derived.Test.YtikimfdijkejpaaHTTake
import Derived.Test.YtikimfdijkejpaaHTGet
namespace Go.Proofs.Ytikimfdijkejpaa.HT
open Go.RowKit Go.Sb

set_option maxRecDepth 100000 in
set_option maxHeartbeats 2000000 in
theorem pop_none {F : Nat → Prop} {bh bm : Nat} {fv lv : Value} {g : Int} {m : List (Int × Value)} {w : World} (h : HRep 99 101 3 F w bh fv g (([] : List (Int × (Int × Int))).map en) lv bm m) :
    Calls Try.prog 27 #[.pointer (some ⟨bh, 0, none⟩)] w fun e w' => e = .returned (.tuple #[.int .i64 0, .agg #[.int .i64 0, .int .i64 0], .bool false]) ∧ Fr (fun _ => False) w w' := by
  have hlt := lt_of_heap h.head
  have HT := Lib.hid (top_none (h.fr (w' := w.alloc (.cells #[.int .i64 0, .int .i64 0] 52)) ((Fr.refl (fun _ => False) w).alloc _) (fun _ _ _ h => h)))
  clear h
  go_enter Try.func27, Try.ntmps27
  go_wp2_with (go_at_call 41; refine HT.out.mono ?_; rintro e w1 ⟨rfl, hf⟩; dsimp only [thV]; have h3 := hf.get (heap_alloc_eq w (.cells #[.int .i64 0, .int .i64 0] 52)) id; have hlt1 : w.heap.size < w1.heap.size := lt_of_heap h3; have e0 : w1.cell? ⟨w.heap.size, 0, none⟩ = some (.int .i64 0) := cell_is h3 0 rfl; have e1 : w1.cell? ⟨w.heap.size, 1, none⟩ = some (.int .i64 0) := cell_is h3 1 rfl; have y0 := frozen_of h3 0; have y1 := frozen_of h3 1; clear h3; have HF := Lib.hid hf; clear hf)
  go_region
  go_wp2_with (fail)
  refine bodyPost_ret (v := .tuple #[.int .i64 0, .agg #[.int .i64 0, .int .i64 0], .bool false]) ?_ rfl ⟨rfl, ?_⟩
  · simp [results, Try.results27, go_sem, e0, e1, hlt1]
  · exact ((((((Fr.refl (fun _ => False) w).alloc _).trans HF.out (fun _ _ h => h)).setCell (p := ⟨w.heap.size, 0, none⟩) (.inr (Nat.le_refl _)) _).setCell (p := ⟨w.heap.size, 1, none⟩) (.inr (Nat.le_refl _)) _).alloc _).drew

set_option maxRecDepth 100000 in
set_option maxHeartbeats 2000000 in
theorem pop_some {fid : Nat} {caps : Array Value} {okx : Int × Int → Prop} {key : Int × Int → Int} {St : Nat → World → Prop} {Sb : Nat → Prop} (B : BSpec Try.prog fid caps thV okx (bk key) St Sb)
    {F : Nat → Prop} {bh bm : Nat} {lv : Value} {g : Int} {L : List (Int × (Int × Int))} {m : List (Int × Value)} {w : World} {a : Int × (Int × Int)} (h : HRep 99 101 3 F w bh (.func (.func fid) #[] caps) g (L.map en) lv bm m)
    (hi : L[0]? = some a) (hL : L.length ≤ 8796093022208) (hok : ∀ p ∈ L, okx p.2) {c : Nat} (hst : St c w) (hFl : ∀ k, F k → k < w.heap.size) (hSF : ∀ k, Sb k → ¬ F k ∧ k < w.heap.size) :
    Calls Try.prog 27 #[.pointer (some ⟨bh, 0, none⟩)] w fun e w' => e = .returned (.tuple #[.int .i64 a.1, thV a.2, .bool true]) ∧ (∃ lv' m', HRep 99 101 3 F w' bh (.func (.func fid) #[] caps) g ((takeL key L 0).map en) lv' bm m') ∧
      (∃ c', c ≤ c' ∧ c' ≤ c + 6 * Nat.log2 L.length ∧ St c' w') ∧ Fr (fun k => F k ∨ Sb k) w w' := by
  have hlt := lt_of_heap h.head
  have hil := (List.getElem?_eq_some_iff.1 hi).1
  have hf0 : Fr (fun _ => False) w (w.alloc (.cells #[.int .i64 0, .int .i64 0] 52)) := (Fr.refl (fun _ => False) w).alloc _
  have HT := Lib.hid (top_some (h.fr hf0 (fun _ _ _ h => h)) hi)
  have H := Lib.hid h
  have HB := Lib.hid B
  have HOK := Lib.hid hok
  have HST := Lib.hid hst
  have HSF := Lib.hid hSF
  have HFL := Lib.hid hFl
  have HF0 := Lib.hid hf0
  clear h B hok hst hSF hi hf0 hFl
  obtain ⟨ta, ra, ma⟩ := a
  dsimp only at HT
  go_enter Try.func27, Try.ntmps27
  go_wp2_with (first
    | (go_at_call 41; refine HT.out.mono ?_; rintro e w1 ⟨rfl, hf⟩; dsimp only [thV]; have h3 := hf.get (heap_alloc_eq w (.cells #[.int .i64 0, .int .i64 0] 52)) id; have H3 := Lib.hid h3; have hlt1 : w.heap.size < w1.heap.size := lt_of_heap h3; have HF := Lib.hid (HF0.out.trans hf (fun _ _ h => h)); clear h3 hf)
    | (go_at_call 50; refine (take_any HB.out 0 (H.out.fr (HF.out.alloc (.cells #[.int .i64 ra, .int .i64 ma] 52)) (fun _ _ _ h => h)) rfl hil hL HOK.out (HB.out.stab c w _ _ HST.out (HF.out.alloc (.cells #[.int .i64 ra, .int .i64 ma] 52)) (fun _ _ h => h)) (fun k hk => ⟨(HSF.out k hk).1, Nat.lt_of_lt_of_le (HSF.out k hk).2 (HF.out.alloc (.cells #[.int .i64 ra, .int .i64 ma] 52)).size⟩)).mono ?_; rintro e w2 ⟨rfl, hr2, hc2, hf2⟩; have HR2 := Lib.hid hr2; have HC2 := Lib.hid hc2; have HF2 := Lib.hid hf2; have h32 := hf2.get ((heap_alloc_lt w1 _ _ hlt1).trans H3.out) (fun h => h.elim (fun h => by have := HFL.out _ h; omega) (fun h => by have := (HSF.out _ h).2; omega)); have h62 := hf2.get (heap_alloc_eq w1 (.cells #[.int .i64 ra, .int .i64 ma] 52)) (fun h => h.elim (fun h => by have := HFL.out _ h; omega) (fun h => by have := (HSF.out _ h).2; omega)); have hlt2 : w1.heap.size < w2.heap.size := lt_of_heap h62; have e0 : w2.cell? ⟨w.heap.size, 0, none⟩ = some (.int .i64 0) := cell_is h32 0 rfl; have e1 : w2.cell? ⟨w.heap.size, 1, none⟩ = some (.int .i64 0) := cell_is h32 1 rfl; have y0 := frozen_of h32 0; have y1 := frozen_of h32 1; have x0 : w2.cell? ⟨w1.heap.size, 0, none⟩ = some (.int .i64 ra) := cell_is h62 0 rfl; have x1 : w2.cell? ⟨w1.heap.size, 1, none⟩ = some (.int .i64 ma) := cell_is h62 1 rfl; clear hr2 hc2 hf2 h32 h62))
  go_region
  go_wp2_with (fail)
  refine bodyPost_ret (v := .tuple #[.int .i64 ta, .agg #[.int .i64 ra, .int .i64 ma], .bool true]) (by simp [results, Try.results27, go_sem, e0, e1]) rfl ?_
  have hfz : Fr (fun k => k = w.heap.size) w2 ((w2.setCell ⟨w.heap.size, 0, none⟩ (.int .i64 ra)).setCell ⟨w.heap.size, 1, none⟩ (.int .i64 ma)).drew := (((Fr.refl (fun k => k = w.heap.size) w2).setCell (p := ⟨w.heap.size, 0, none⟩) (.inl rfl) _).setCell (p := ⟨w.heap.size, 1, none⟩) (.inl rfl) _).drew
  obtain ⟨lv2, m2, hr2⟩ := HR2.out
  obtain ⟨c2, hc1, hc2, hs2⟩ := HC2.out
  refine ⟨rfl, ⟨lv2, m2, hr2.fr hfz (fun k _ hk e => by have := HFL.out k hk; omega)⟩, ⟨c2, hc1, hc2, HB.out.stab c2 w2 _ _ hs2 hfz (fun k hk e => by have := (HSF.out k hk).2; omega)⟩, ?_⟩
  refine Fr.trans (F' := fun k => (F k ∨ Sb k) ∨ k = w.heap.size) (HF.out.mono (fun _ _ h => h.elim)) ((((Fr.refl _ w1).alloc (.cells #[.int .i64 ra, .int .i64 ma] 52)).trans (HF2.out.mono (fun _ _ h => .inl h)) (fun _ _ h => h)).trans (hfz.mono (fun _ _ h => .inr h)) (fun _ _ h => h)) (fun k hk h => h.elim id (fun e => by omega))

set_option maxRecDepth 100000 in
set_option maxHeartbeats 2000000 in
theorem remove_none {F : Nat → Prop} {bh bm : Nat} {fv lv : Value} {g : Int} {L : List (Int × (Int × Int))} {m : List (Int × Value)} {w : World} {t : Int} (h : HRep 99 101 3 F w bh fv g (L.map en) lv bm m) (ht : ∀ p ∈ L, p.1 ≠ t) :
    Calls Try.prog 28 #[.pointer (some ⟨bh, 0, none⟩), .int .i64 t] w fun e w' => e = .returned (.tuple #[.agg #[.int .i64 0, .int .i64 0], .bool false]) ∧ Fr (fun _ => False) w w' := by
  have hlt := lt_of_heap h.head
  have hf0 : Fr (fun _ => False) w (w.alloc (.cells #[.int .i64 0, .int .i64 0] 52)) := (Fr.refl (fun _ => False) w).alloc _
  have HT := Lib.hid (get_none (h.fr hf0 (fun _ _ _ h => h)) ht)
  have HF0 := Lib.hid hf0
  clear h ht hf0
  go_enter Try.func28, Try.ntmps28
  go_wp2_with (go_at_call 37; refine HT.out.mono ?_; rintro e w1 ⟨rfl, hf⟩; have h3 := hf.get (heap_alloc_eq w (.cells #[.int .i64 0, .int .i64 0] 52)) id; have hlt1 : w.heap.size < w1.heap.size := lt_of_heap h3; have e0 : w1.cell? ⟨w.heap.size, 0, none⟩ = some (.int .i64 0) := cell_is h3 0 rfl; have e1 : w1.cell? ⟨w.heap.size, 1, none⟩ = some (.int .i64 0) := cell_is h3 1 rfl; have y0 := frozen_of h3 0; have y1 := frozen_of h3 1; have HF := Lib.hid (HF0.out.trans hf (fun _ _ h => h)); clear h3 hf)
  refine bodyPost_ret (v := .tuple #[.agg #[.int .i64 0, .int .i64 0], .bool false]) ?_ rfl ⟨rfl, ?_⟩
  · simp [results, Try.results28, go_sem, e0, e1, hlt1]
  · first
      | exact ((HF.out.alloc _).setCell (p := ⟨w.heap.size, 0, none⟩) (.inr (Nat.le_refl _)) _).setCell (p := ⟨w.heap.size, 1, none⟩) (.inr (Nat.le_refl _)) _
      | exact ((HF.out.setCell (p := ⟨w.heap.size, 0, none⟩) (.inr (Nat.le_refl _)) _).setCell (p := ⟨w.heap.size, 1, none⟩) (.inr (Nat.le_refl _)) _).alloc _

set_option maxRecDepth 100000 in
set_option maxHeartbeats 2000000 in
theorem remove_some {fid : Nat} {caps : Array Value} {okx : Int × Int → Prop} {key : Int × Int → Int} {St : Nat → World → Prop} {Sb : Nat → Prop} (B : BSpec Try.prog fid caps thV okx (bk key) St Sb)
    {F : Nat → Prop} {bh bm : Nat} {lv : Value} {g : Int} {L : List (Int × (Int × Int))} {m : List (Int × Value)} {w : World} {i : Nat} {a : Int × (Int × Int)} (h : HRep 99 101 3 F w bh (.func (.func fid) #[] caps) g (L.map en) lv bm m)
    (hi : L[i]? = some a) (hL : L.length ≤ 8796093022208) (hok : ∀ p ∈ L, okx p.2) {c : Nat} (hst : St c w) (hFl : ∀ k, F k → k < w.heap.size) (hSF : ∀ k, Sb k → ¬ F k ∧ k < w.heap.size) :
    Calls Try.prog 28 #[.pointer (some ⟨bh, 0, none⟩), .int .i64 a.1] w fun e w' => e = .returned (.tuple #[thV a.2, .bool true]) ∧ (∃ lv' m', HRep 99 101 3 F w' bh (.func (.func fid) #[] caps) g ((takeL key L i).map en) lv' bm m') ∧
      (∃ c', c ≤ c' ∧ c' ≤ c + 6 * Nat.log2 L.length ∧ St c' w') ∧ Fr (fun k => F k ∨ Sb k) w w' := by
  have hlt := lt_of_heap h.head
  have hil := (List.getElem?_eq_some_iff.1 hi).1
  have hf0 : Fr (fun _ => False) w (w.alloc (.cells #[.int .i64 0, .int .i64 0] 52)) := (Fr.refl (fun _ => False) w).alloc _
  have HT := Lib.hid (get_some (h.fr hf0 (fun _ _ _ h => h)) hi)
  have hm : (a.1, Value.int .i64 (i : Int)) ∈ m := h.ok.hit i (en a) (by rw [List.getElem?_map, hi]; rfl)
  obtain ⟨m1, m2, hms, hm1, _⟩ := split_at h.ok.keys hm
  have HMS := Lib.hid hms
  have HM1 := Lib.hid hm1
  have H := Lib.hid h
  have HB := Lib.hid B
  have HOK := Lib.hid hok
  have HST := Lib.hid hst
  have HSF := Lib.hid hSF
  have HFL := Lib.hid hFl
  have HF0 := Lib.hid hf0
  clear h B hok hst hSF hi hf0 hFl hm hms hm1
  obtain ⟨ta, ra, ma⟩ := a
  dsimp only at HT HMS HM1
  go_enter Try.func28, Try.ntmps28
  go_wp2_with (first
    | (go_at_call 37; refine HT.out.mono ?_; rintro e w1 ⟨rfl, hf⟩; dsimp only [thV]; have h3 := hf.get (heap_alloc_eq w (.cells #[.int .i64 0, .int .i64 0] 52)) id; have H3 := Lib.hid h3; have hlt1 : w.heap.size < w1.heap.size := lt_of_heap h3; have HF := Lib.hid (HF0.out.trans hf (fun _ _ h => h)); have c2 : w1.cell? ⟨bh, 2, none⟩ = some (.map (some bm)) := cell_is (HF.out.get H.out.head id) 2 rfl; have HMW : Hid (HasMap w1 bm (m1 ++ (ta, .int .i64 (i : Int)) :: m2)) := Lib.hid (HMS.out ▸ (H.out.fr HF.out (fun _ _ _ h => h)).map); have hbl1 : bh < w1.heap.size := (by omega); clear h3 hf)
    | (at_lookup; refine wpList_lookup_some _ rfl _ _ 82 false rfl 3 3 Try.underlying82 Try.underlying3 bm m1 m2 ta (.int .i64 (i : Int)) rfl rfl (HMW.out.alloc _) HM1.out ?_)
    | (go_at_call 50; refine (take_any HB.out i (H.out.fr (HF.out.alloc (.cells #[.int .i64 ra, .int .i64 ma] 52)) (fun _ _ _ h => h)) rfl hil hL HOK.out (HB.out.stab c w _ _ HST.out (HF.out.alloc (.cells #[.int .i64 ra, .int .i64 ma] 52)) (fun _ _ h => h)) (fun k hk => ⟨(HSF.out k hk).1, Nat.lt_of_lt_of_le (HSF.out k hk).2 (HF.out.alloc (.cells #[.int .i64 ra, .int .i64 ma] 52)).size⟩)).mono ?_; rintro e w2 ⟨rfl, hr2, hc2, hf2⟩; have HR2 := Lib.hid hr2; have HC2 := Lib.hid hc2; have HF2 := Lib.hid hf2; have h32 := hf2.get ((heap_alloc_lt w1 _ _ hlt1).trans H3.out) (fun h => h.elim (fun h => by have := HFL.out _ h; omega) (fun h => by have := (HSF.out _ h).2; omega)); have h62 := hf2.get (heap_alloc_eq w1 (.cells #[.int .i64 ra, .int .i64 ma] 52)) (fun h => h.elim (fun h => by have := HFL.out _ h; omega) (fun h => by have := (HSF.out _ h).2; omega)); have hlt2 : w1.heap.size < w2.heap.size := lt_of_heap h62; have e0 : w2.cell? ⟨w.heap.size, 0, none⟩ = some (.int .i64 0) := cell_is h32 0 rfl; have e1 : w2.cell? ⟨w.heap.size, 1, none⟩ = some (.int .i64 0) := cell_is h32 1 rfl; have y0 := frozen_of h32 0; have y1 := frozen_of h32 1; have x0 : w2.cell? ⟨w1.heap.size, 0, none⟩ = some (.int .i64 ra) := cell_is h62 0 rfl; have x1 : w2.cell? ⟨w1.heap.size, 1, none⟩ = some (.int .i64 ma) := cell_is h62 1 rfl; clear hr2 hc2 hf2 h32 h62))
  refine bodyPost_ret (v := .tuple #[.agg #[.int .i64 ra, .int .i64 ma], .bool true]) (by simp [results, Try.results28, go_sem, e0, e1]) rfl ?_
  have hfz : Fr (fun k => k = w.heap.size) w2 ((w2.setCell ⟨w.heap.size, 0, none⟩ (.int .i64 ra)).setCell ⟨w.heap.size, 1, none⟩ (.int .i64 ma)) := ((Fr.refl (fun k => k = w.heap.size) w2).setCell (p := ⟨w.heap.size, 0, none⟩) (.inl rfl) _).setCell (p := ⟨w.heap.size, 1, none⟩) (.inl rfl) _
  obtain ⟨lv2, m2, hr2⟩ := HR2.out
  obtain ⟨c2, hc1, hc2, hs2⟩ := HC2.out
  refine ⟨rfl, ⟨lv2, m2, hr2.fr hfz (fun k _ hk e => by have := HFL.out k hk; omega)⟩, ⟨c2, hc1, hc2, HB.out.stab c2 w2 _ _ hs2 hfz (fun k hk e => by have := (HSF.out k hk).2; omega)⟩, ?_⟩
  refine Fr.trans (F' := fun k => (F k ∨ Sb k) ∨ k = w.heap.size) (HF.out.mono (fun _ _ h => h.elim)) ((((Fr.refl _ w1).alloc (.cells #[.int .i64 ra, .int .i64 ma] 52)).trans (HF2.out.mono (fun _ _ h => .inl h)) (fun _ _ h => h)).trans (hfz.mono (fun _ _ h => .inr h)) (fun _ _ h => h)) (fun k hk h => h.elim id (fun e => by omega))

end Go.Proofs.Ytikimfdijkejpaa.HT
