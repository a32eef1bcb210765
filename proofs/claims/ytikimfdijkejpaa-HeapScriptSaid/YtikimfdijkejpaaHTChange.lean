/- The heap at one type of things: Change. -/
import Derived.Test.YtikimfdijkejpaaHTPop
namespace Go.Proofs.Ytikimfdijkejpaa.HT
open Go.RowKit Go.Sb

set_option maxRecDepth 100000 in
set_option maxHeartbeats 2000000 in
theorem change_none {F : Nat → Prop} {bh bm : Nat} {fv lv : Value} {g : Int} {L : List (Int × (Int × Int))} {m : List (Int × Value)} {w : World} {t : Int} (x : Int × Int) (h : HRep 99 101 3 F w bh fv g (L.map en) lv bm m) (ht : ∀ p ∈ L, p.1 ≠ t) :
    Calls Try.prog 29 #[.pointer (some ⟨bh, 0, none⟩), .int .i64 t, thV x] w fun e w' => e = .returned (.bool false) ∧ Fr (fun _ => False) w w' := by
  have hn : t ∉ m.map Prod.fst := h.ok.none (fun e he => by
    obtain ⟨p, hp, rfl⟩ := List.mem_map.1 he
    exact ht p hp)
  have hz : ∀ w : World, (zeroValue 3).run Try.prog w = .ok (.int .i64 0) w := fun w => by kernel_rfl
  have c2 : w.cell? ⟨bh, 2, none⟩ = some (.map (some bm)) := cell_is h.head 2 rfl
  have hlt := lt_of_heap h.head
  have HM := Lib.hid h.map
  have HN := Lib.hid hn
  have HZ := Lib.hid hz
  clear h hn hz ht
  obtain ⟨ra, ma⟩ := x
  unfold thV
  go_enter Try.func29, Try.ntmps29
  go_wp2_with (at_lookup; refine wpList_lookup_none _ rfl _ _ 82 true rfl 3 3 Try.underlying82 Try.underlying3 (HZ.out _) bm m t rfl rfl (HM.out.alloc _) HN.out ?_)
  go_ret
  exact ⟨rfl, (Fr.refl _ _).alloc _⟩

theorem set_self {α : Type} {xs : List α} {k : Nat} {v : α} (h : xs[k]? = some v) : xs.set k v = xs := by
  apply List.ext_getElem?
  intro j
  rw [List.getElem?_set]
  split
  · rename_i e
    subst e
    split
    · exact h.symm
    · rename_i hn
      rw [List.getElem?_eq_none (by omega)]
  · rfl

theorem places_change {L : List (Int × (Int × Int))} {m : List (Int × Value)} {i : Nat} {a : Int × (Int × Int)} (h : Places m (L.map en)) (hi : L[i]? = some a) (x : Int × Int) : Places m ((L.set i (a.1, x)).map en) := by
  have hil := (List.getElem?_eq_some_iff.1 hi).1
  refine ⟨h.keys, fun k e hk => ?_, fun t ht => ?_⟩
  · rw [List.getElem?_map, List.getElem?_set] at hk
    by_cases hik : i = k
    · subst hik
      rw [if_pos rfl, if_pos hil] at hk
      cases hk
      exact h.hit i (en a) (by rw [List.getElem?_map, hi]; rfl)
    · rw [if_neg hik] at hk
      exact h.hit k e (by rw [List.getElem?_map]; exact hk)
  · obtain ⟨e, he, het⟩ := h.back t ht
    obtain ⟨p, hp, rfl⟩ := List.mem_map.1 he
    obtain ⟨k, hk⟩ := List.getElem?_of_mem hp
    by_cases hik : i = k
    · subst hik
      rw [hi] at hk
      cases hk
      exact ⟨en (a.1, x), List.mem_map.2 ⟨_, List.mem_of_getElem? (List.getElem?_set_self hil), rfl⟩, het⟩
    · exact ⟨en p, List.mem_map.2 ⟨p, List.mem_of_getElem? (by rw [List.getElem?_set_ne hik]; exact hk), rfl⟩, het⟩

set_option maxRecDepth 100000 in
set_option maxHeartbeats 2000000 in
theorem change_some {fid : Nat} {caps : Array Value} {okx : Int × Int → Prop} {key : Int × Int → Int} {St : Nat → World → Prop} {Sb : Nat → Prop} (B : BSpec Try.prog fid caps thV okx (bk key) St Sb)
    {F : Nat → Prop} {bh bm : Nat} {lv : Value} {g : Int} {L : List (Int × (Int × Int))} {m : List (Int × Value)} {w : World} {i : Nat} {a : Int × (Int × Int)} (x : Int × Int) (h : HRep 99 101 3 F w bh (.func (.func fid) #[] caps) g (L.map en) lv bm m)
    (hi : L[i]? = some a) (hL : L.length ≤ 8796093022208) (hok : ∀ p ∈ L, okx p.2) (hx : okx x) {c : Nat} (hst : St c w) (hSF : ∀ k, Sb k → ¬ F k ∧ k < w.heap.size) :
    Calls Try.prog 29 #[.pointer (some ⟨bh, 0, none⟩), .int .i64 a.1, thV x] w fun e w' => e = .returned (.bool true) ∧ (∃ m', HRep 99 101 3 F w' bh (.func (.func fid) #[] caps) g ((settleL key (L.set i (a.1, x)) i).map en) lv bm m') ∧
      (∃ c', c ≤ c' ∧ c' ≤ c + 6 * Nat.log2 L.length ∧ St c' w') ∧ Fr (fun k => F k ∨ Sb k) w w' := by
  have hil := (List.getElem?_eq_some_iff.1 hi).1
  obtain ⟨gg, cap, rfl, hcap, hcm⟩ := h.some hil
  have hown : Own 101 3 F w (.slice (some ⟨gg, 0, none⟩) L.length cap) L.length (allc (L.map en)) := by simpa using h.list
  have hm : (a.1, Value.int .i64 (i : Int)) ∈ m := h.ok.hit i (en a) (by rw [List.getElem?_map, hi]; rfl)
  obtain ⟨m1, m2, hms, hm1, _⟩ := split_at h.ok.keys hm
  have hlt := lt_of_heap h.head
  have hgl : gg < w.heap.size := (hown.block gg rfl).2
  have c1 : w.cell? ⟨bh, 1, none⟩ = some (.slice (some ⟨gg, 0, none⟩) L.length cap) := cell_is h.head 1 rfl
  have c2 : w.cell? ⟨bh, 2, none⟩ = some (.map (some bm)) := cell_is h.head 2 rfl
  obtain ⟨i0, i1, i2⟩ := en_cells hown hi
  have f0 := hown.frozen (g := gg) rfl (i * 3 + 1)
  have f1 := hown.frozen (g := gg) rfl (i * 3 + 2)
  unfold maxLen at hcm
  have HI := Lib.hid hi
  have HOWN := Lib.hid hown
  have HM1 := Lib.hid hm1
  have HMM : Hid (HasMap w bm (m1 ++ (a.1, .int .i64 (i : Int)) :: m2)) := Lib.hid (hms ▸ h.map)
  have H := Lib.hid h
  have HB := Lib.hid B
  have HOK := Lib.hid hok
  have HST := Lib.hid hst
  have HSF := Lib.hid hSF
  have HX := Lib.hid hx
  clear h B hok hst hSF hi hown hm hms hm1 hx
  obtain ⟨ra, ma⟩ := x
  unfold thV
  go_enter Try.func29, Try.ntmps29
  go_wp2_with (at_lookup; refine wpList_lookup_some _ rfl _ _ 82 true rfl 3 3 Try.underlying82 Try.underlying3 bm m1 m2 a.1 (.int .i64 (i : Int)) rfl rfl (HMM.out.alloc _) HM1.out ?_)
  have f3 : Fr (fun _ => False) w (w.alloc (.cells #[.int .i64 ra, .int .i64 ma] 52)) := (Fr.refl _ _).alloc _
  have d1 := cell_fr f3 c1 id
  have e1 := cell_fr f3 i1 id
  have e2 := cell_fr f3 i2 id
  have hown2 := HOWN.out.alloc (.cells #[.int .i64 ra, .int .i64 ma] 52)
  have y1 := hown2.frozen (g := gg) rfl (i * 3 + 1)
  have y2 := hown2.frozen (g := gg) rfl (i * 3 + 2)
  have hx := heap_alloc_eq w (.cells #[.int .i64 ra, .int .i64 ma] 52)
  have x0 := cell_is hx 0 rfl
  have x1 := cell_is hx 1 rfl
  have HF3 := Lib.hid f3
  have HOWN2 := Lib.hid hown2
  clear f3 hown2 hx c1 c2 i0 i1 i2 f0 f1
  generalize w.alloc (.cells #[.int .i64 ra, .int .i64 ma] 52) = w1 at *
  go_still_tail 8, (by kernel_rfl)
  change wpList _ _ _ _ _ w1.drew
  have hf2 : Fr (fun k => k = gg) w1 ((w1.setCell ⟨gg, i * 3 + 1, none⟩ (.int .i64 ra)).setCell ⟨gg, i * 3 + 2, none⟩ (.int .i64 ma)).drew := (((Fr.refl (fun k => k = gg) w1).setCell (p := ⟨gg, i * 3 + 1, none⟩) (.inl rfl) _).setCell (p := ⟨gg, i * 3 + 2, none⟩) (.inl rfl) _).drew
  have hfc : Fr F w ((w1.setCell ⟨gg, i * 3 + 1, none⟩ (.int .i64 ra)).setCell ⟨gg, i * 3 + 2, none⟩ (.int .i64 ma)).drew := (HF3.out.mono (fun _ _ h => h.elim)).trans hf2 (fun k _ e => e ▸ (HOWN.out.block gg rfl).1)
  have hrc : HRep 99 101 3 F ((w1.setCell ⟨gg, i * 3 + 1, none⟩ (.int .i64 ra)).setCell ⟨gg, i * 3 + 2, none⟩ (.int .i64 ma)).drew bh (.func (.func fid) #[] caps) g ((L.set i (a.1, (ra, ma))).map en) (.slice (some ⟨gg, 0, none⟩) L.length cap) bm m := by
    have h1 := (H.out.fr HF3.out (fun _ _ _ h => h))
    refine ⟨hf2.get h1.head (fun e => own_neT H.out.head (by decide) HOWN.out (by rw [e]; rfl)), ?_, h1.map.of (hf2.block bm h1.map.lt (fun e => own_neM H.out.map HOWN.out (by rw [e]; rfl))), places_change H.out.ok HI.out (ra, ma), H.out.fh, H.out.fm, en_wid _, ?_⟩
    · have h2 := (HOWN2.out.setAt (g := gg) rfl (k := i * 3 + 1) (by omega) (.int .i64 ra)).setAt (g := gg) rfl (k := i * 3 + 2) (by omega) (.int .i64 ma)
      have h3 : (allc (L.map en)).set (i * 3) (.int .i64 a.1) = allc (L.map en) := set_self ((allc_at _ (en_wid L) i (en a) (by rw [List.getElem?_map, HI.out]; rfl) 0 (by decide)).trans rfl)
      rw [← h3, allc_set3 _ (en_wid L) i a.1 _ _ (by simpa using hil)] at h2
      rw [List.length_map, List.length_set, List.map_set]
      exact h2
    · intro e he u hu
      obtain ⟨p, _, rfl⟩ := List.mem_map.1 he
      simp only [en, List.mem_cons, List.not_mem_nil, or_false] at hu
      rcases hu with rfl | rfl <;> rfl
  have HFC := Lib.hid hfc
  have HRC := Lib.hid hrc
  have HOKC : Hid (∀ p ∈ L.set i (a.1, (ra, ma)), okx p.2) := Lib.hid (fun p hp => by
    rcases List.mem_or_eq_of_mem_set hp with hp | hp
    · exact HOK.out p hp
    · subst hp
      exact HX.out)
  have HLEN : Hid ((L.set i (a.1, (ra, ma))).length = L.length) := Lib.hid List.length_set
  have HSTC := Lib.hid (HB.out.stab c w _ F HST.out hfc (fun k hk => (HSF.out k hk).1))
  have HSFC : Hid (∀ k, Sb k → ¬ F k ∧ k < _) := Lib.hid (fun k hk => ⟨(HSF.out k hk).1, Nat.lt_of_lt_of_le (HSF.out k hk).2 hfc.size⟩)
  clear hf2 hfc hrc
  go_wp2_with (go_at_call 51; refine (settle_any HB.out i HRC.out rfl (by rw [HLEN.out]; exact hil) (by rw [HLEN.out]; exact hL) HOKC.out HSTC.out HSFC.out).mono ?_; rintro e w6 ⟨rfl, hr6, hc6, hf6⟩; have HR6 := Lib.hid hr6; have HC6 := Lib.hid hc6; have HF6 := Lib.hid hf6; clear hr6 hc6 hf6)
  go_ret
  obtain ⟨c6, hc1, hc2, hc3⟩ := HC6.out
  rw [HLEN.out] at hc2
  exact ⟨rfl, HR6.out, ⟨c6, hc1, hc2, hc3⟩, (HFC.out.mono (fun _ _ h => .inl h)).trans HF6.out (fun _ _ h => h)⟩

end Go.Proofs.Ytikimfdijkejpaa.HT
