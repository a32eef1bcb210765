/- The heap at one type of things: Push. -/
import Derived.Test.YtikimfdijkejpaaHTUp
import Derived.Test.YtikimfdijkejpaaHTGet
namespace Go.Proofs.Ytikimfdijkejpaa.HT
open Go.RowKit Go.Sb

theorem own_some {E : TypeId} {sz n : Nat} {F : Nat → Prop} {w : World} {v : Value} {xs : List Value} (h : Own E sz F w v n xs) (hn : 0 < n) : ∃ g c, v = .slice (some ⟨g, 0, none⟩) n c ∧ n ≤ c ∧ c ≤ maxLen := by
  rcases h.shape with ⟨_, h1, _⟩ | ⟨g, c, h1, h2, h3, _⟩
  · omega
  · exact ⟨g, c, h1, h2, h3⟩

theorem infoE : (Try.prog.info? 101).map (fun i => (i.zero, i.size, i.bytes)) = some (some (.agg #[.int .i64 0, .int .i64 0, .int .i64 0]), 3, 24) := by kernel_rfl

/-- One entry just laid. -/
theorem src_en (w : World) (t : Int) (x : Int × Int) : Src (w.alloc (.cells #[.int .i64 t, .int .i64 x.1, .int .i64 x.2] 101)) (.slice (some ⟨w.heap.size, 0, none⟩) 1 1) 1 3 (allc [en (t, x)]) := by
  refine ⟨rfl, ?_, .inr ⟨_, _, rfl, ?_⟩⟩
  · intro u hu
    simp only [allc, ecells, en, List.flatMap_cons, List.flatMap_nil, List.append_nil, List.mem_cons, List.not_mem_nil, or_false] at hu
    rcases hu with rfl | rfl | rfl <;> rfl
  · intro j u hj
    have ha : (⟨w.heap.size, 0, none⟩ : Addr).add j = ⟨w.heap.size, j, none⟩ := by unfold Addr.add; split <;> simp_all
    rw [ha, cell_of (heap_alloc_eq w (.cells #[.int .i64 t, .int .i64 x.1, .int .i64 x.2] 101))]
    simpa [allc, ecells, en] using hj

/-- What lies in memory once the new entry stands at the end. -/
theorem push_mid {F : Nat → Prop} {bh bm : Nat} {fv : Value} {ad : Option Addr} {cap : Nat} {g : Int} {L : List (Int × (Int × Int))} {m : List (Int × Value)} {w w1 w2 w3 : World} {x : Int × Int} {o : Obj} {g5 k5 : Nat}
    (h : HRep 99 101 3 F w bh fv g (L.map en) (.slice ad L.length cap) bm m) (hnew : ∀ p ∈ L, p.1 ≤ g) (hf1 : Fr (fun k => k = bh) w w1) (hf2 : Fr (fun k => k = bm) w1 w2) (hm2 : HasMap w2 bm (m ++ [(g + 1, .int .i64 (L.length : Int))]))
    (hgb : ∀ k, (Value.slice ad L.length cap).ownBlock = some k → k ≠ bh ∧ k ≠ bm ∧ F k ∧ k < w.heap.size)
    (hv3 : Go.Sb.Own 101 3 (ex F (w2.alloc o).drew) w3 (.slice (some ⟨g5, 0, none⟩) (L.length + 1) k5) (L.length + 1) (allc (L.map en) ++ allc [en (g + 1, x)])) (hf3 : Fr (fun k => (Value.slice ad L.length cap).ownBlock = some k) (w2.alloc o).drew w3)
    (e1 : w3.heap[bh]? = some (.cells #[fv, .slice ad L.length cap, .map (some bm), .int .i64 (g + 1)] 99 (0, 0))) :
    HRep 99 101 3 (ex F w) (w3.setCell ⟨bh, 1, none⟩ (.slice (some ⟨g5, 0, none⟩) (L.length + 1) k5)) bh fv (g + 1) ((L ++ [(g + 1, x)]).map en) (.slice (some ⟨g5, 0, none⟩) (L.length + 1) k5) bm (m ++ [(g + 1, .int .i64 (L.length : Int))]) ∧
      Fr F w (w3.setCell ⟨bh, 1, none⟩ (.slice (some ⟨g5, 0, none⟩) (L.length + 1) k5)) := by
  have hs1 := hf1.size
  have hs2 := hf2.size
  have hbm : bm ≠ bh := fun e => h.map.ne h.head e.symm
  have f23 : Fr (fun k => (Value.slice ad L.length cap).ownBlock = some k) w2 w3 := (((Fr.refl _ w2).alloc o).drew).trans hf3 (fun _ _ h => h)
  have hm3 : HasMap w3 bm (m ++ [(g + 1, .int .i64 (L.length : Int))]) := hm2.of (f23.block bm hm2.lt (fun hb => (hgb _ hb).2.1 rfl))
  refine ⟨⟨?_, ?_, ?_, ?_, ex_of h.fh, ex_of h.fm, en_wid _, ?_⟩, ?_⟩
  · have := heap_setCell_eq 1 (.slice (some ⟨g5, 0, none⟩) (L.length + 1) k5) e1
    simpa using this
  · have h1 := (hv3.mono (G := ex F w) (fun k _ hk => hk.elim ex_of (fun hk => by simp at hk; exact ex_new (by omega)))).of (w' := w3.setCell ⟨bh, 1, none⟩ (.slice (some ⟨g5, 0, none⟩) (L.length + 1) k5)) (fun k _ hb => heap_setCell_ne _ _ _ _ (fun e => own_neT e1 (by decide) hv3 (by rw [hb, e])))
    rw [List.map_append, allc_append, List.length_append, List.length_map]
    exact h1
  · exact hm3.of (heap_setCell_ne _ _ _ _ hbm)
  · have h1 := h.ok.push (en (g + 1, x)) (fun e he => by
      obtain ⟨p, hp, rfl⟩ := List.mem_map.1 he
      have := hnew p hp
      show p.1 ≠ g + 1
      omega)
    rw [List.length_map] at h1
    rw [List.map_append]
    exact h1
  · intro e he u hu
    obtain ⟨p, _, rfl⟩ := List.mem_map.1 he
    simp only [en, List.mem_cons, List.not_mem_nil, or_false] at hu
    rcases hu with rfl | rfl <;> rfl
  · refine Fr.setCell ?_ (p := ⟨bh, 1, none⟩) (.inl h.fh) _
    refine Fr.trans (F := F) (F' := fun k => k = bm ∨ (Value.slice ad L.length cap).ownBlock = some k) (hf1.mono (fun k _ e => e ▸ h.fh)) ((hf2.mono (fun _ _ h => .inl h)).trans f23 (fun _ _ h => .inr h)) (fun k _ hk => hk.elim (fun e => e ▸ h.fm) (fun hb => (hgb k hb).2.2.1))

set_option maxRecDepth 100000 in
set_option maxHeartbeats 4000000 in
theorem push_any {fid : Nat} {caps : Array Value} {okx : Int × Int → Prop} {key : Int × Int → Int} {St : Nat → World → Prop} {Sb : Nat → Prop} (B : BSpec Try.prog fid caps thV okx (bk key) St Sb)
    {F : Nat → Prop} {bh bm : Nat} {lv : Value} {g : Int} {L : List (Int × (Int × Int))} {m : List (Int × Value)} {w : World} (x : Int × Int) (h : HRep 99 101 3 F w bh (.func (.func fid) #[] caps) g (L.map en) lv bm m)
    (hg0 : 0 ≤ g) (hg1 : g ≤ 8796093022208) (hL : L.length ≤ 8796093022208) (hnew : ∀ p ∈ L, p.1 ≤ g) (hok : ∀ p ∈ L, okx p.2) (hx : okx x) {c : Nat} (hst : St c w) (hSF : ∀ k, Sb k → ¬ F k ∧ k < w.heap.size) :
    Calls Try.prog 26 #[.pointer (some ⟨bh, 0, none⟩), thV x] w fun e w' => e = .returned (.int .i64 (g + 1)) ∧ (∃ lv' m', HRep 99 101 3 (ex F w) w' bh (.func (.func fid) #[] caps) (g + 1) ((pushL key L (g + 1, x)).map en) lv' bm m') ∧
      (∃ c', c ≤ c' ∧ c' ≤ c + 2 * Nat.log2 (L.length + 1) ∧ St c' w') ∧ Fr (fun k => F k ∨ Sb k) w w' := by
  obtain ⟨ad, cap, rfl, hcap, hcm⟩ : ∃ ad cap, lv = .slice ad L.length cap ∧ L.length ≤ cap ∧ cap ≤ maxLen := by
    rcases h.list.shape with ⟨rfl, hl, _⟩ | ⟨gg, cap, he, h1, h2, _⟩
    · simp at hl
      subst hl
      exact ⟨none, 0, rfl, Nat.le_refl _, by simp [maxLen]⟩
    · exact ⟨_, cap, by simpa using he, by simpa using h1, h2⟩
  unfold maxLen at hcm
  have c1 : w.cell? ⟨bh, 1, none⟩ = some (.slice ad L.length cap) := cell_is h.head 1 rfl
  have c2 : w.cell? ⟨bh, 2, none⟩ = some (.map (some bm)) := cell_is h.head 2 rfl
  have c3 : w.cell? ⟨bh, 3, none⟩ = some (.int .i64 g) := cell_is h.head 3 rfl
  have f1 := frozen_of h.head 1
  have f3 := frozen_of h.head 3
  have hlt := lt_of_heap h.head
  have H := Lib.hid h
  have HB := Lib.hid B
  have HOK := Lib.hid hok
  have HST := Lib.hid hst
  have HSF := Lib.hid hSF
  have HX := Lib.hid hx
  have HN : Hid (g + 1 ∉ m.map Prod.fst) := Lib.hid (h.ok.none (fun e he => by
    obtain ⟨p, hp, rfl⟩ := List.mem_map.1 he
    have := hnew p hp
    show p.1 ≠ g + 1
    omega))
  have HNEW := Lib.hid hnew
  clear h B hok hst hSF hx hnew
  obtain ⟨ra, ma⟩ := x
  unfold thV
  go_enter Try.func26, Try.ntmps26
  go_wp2_with (fail)
  -- the tickets' count is one more
  obtain ⟨w1, hw1⟩ : ∃ w1, (w.setCell ⟨bh, 3, none⟩ (.int .i64 (g + 1))).alloc (.cells #[.int .i64 ra, .int .i64 ma] 52) = w1 := ⟨_, rfl⟩
  have hf1 : Fr (fun k => k = bh) w w1 := hw1 ▸ ((Fr.refl (fun k => k = bh) w).setCell (p := ⟨bh, 3, none⟩) (.inl rfl) _).alloc _
  have hh1 : w1.heap[bh]? = some (.cells #[.func (.func fid) #[] caps, .slice ad L.length cap, .map (some bm), .int .i64 (g + 1)] 99 (0, 0)) := by
    rw [← hw1]
    rw [heap_alloc_lt _ _ _ (by simpa using hlt)]
    have := heap_setCell_eq 3 (.int .i64 (g + 1)) H.out.head
    simpa using this
  have hx1 : w1.heap[w.heap.size]? = some (.cells #[.int .i64 ra, .int .i64 ma] 52 (0, 0)) := by
    rw [← hw1]
    have := heap_alloc_eq (w.setCell ⟨bh, 3, none⟩ (.int .i64 (g + 1))) (.cells #[.int .i64 ra, .int .i64 ma] 52)
    rwa [World.size_setCell] at this
  have hbm : bm ≠ bh := fun e => H.out.map.ne H.out.head e.symm
  have hm1 : HasMap w1 bm m := H.out.map.of (hf1.block bm H.out.map.lt hbm)
  have hsz1 : w.heap.size < w1.heap.size := lt_of_heap hx1
  rw [hw1]
  have HF1 := Lib.hid hf1
  have HH1 := Lib.hid hh1
  have HM1 := Lib.hid hm1
  have HX1 := Lib.hid hx1
  have HBM := Lib.hid hbm
  clear hw1 hf1 hh1 hm1 c1 c2 c3 f1 f3 hbm
  clear hx1
  have c1 : w1.cell? ⟨bh, 1, none⟩ = some (.slice ad L.length cap) := cell_is HH1.out 1 rfl
  have c2 : w1.cell? ⟨bh, 2, none⟩ = some (.map (some bm)) := cell_is HH1.out 2 rfl
  have c3 : w1.cell? ⟨bh, 3, none⟩ = some (.int .i64 (g + 1)) := cell_is HH1.out 3 rfl
  go_still_tail 13, (by kernel_rfl)
  change wpList _ _ _ _ _ w1.drew
  go_wp2_with (at_mapUpdate; refine wpList_mapUpdate_new _ rfl _ _ _ 82 rfl 3 3 Try.underlying82 Try.underlying3 bm m (g + 1) (.int .i64 (L.length : Int)) rfl rfl rfl HM1.out.drew HN.out ?_; intro o2 ho2)
  -- the map knows the place
  have hf2 : Fr (fun k => k = bm) w1 (w1.drew.putObj bm o2) := ((Fr.refl (fun k => k = bm) w1).drew).putObj (.inl rfl) _
  have hm2 : HasMap (w1.drew.putObj bm o2) bm (m ++ [(g + 1, .int .i64 (L.length : Int))]) := HasMap.put HM1.out.lt ho2
  have HF2 := Lib.hid hf2
  have HM2 := Lib.hid hm2
  have HH2 := Lib.hid (hf2.get HH1.out (fun e => HBM.out e.symm))
  have HX2 := Lib.hid (hf2.get HX1.out (fun e => by have := H.out.map.lt; omega))
  clear hf2 hm2 ho2 c1 c2 c3
  generalize w1.drew.putObj bm o2 = w2 at *
  have c1 : w2.cell? ⟨bh, 1, none⟩ = some (.slice ad L.length cap) := cell_is HH2.out 1 rfl
  have c3 : w2.cell? ⟨bh, 3, none⟩ = some (.int .i64 (g + 1)) := cell_is HH2.out 3 rfl
  have x0 : w2.cell? ⟨w.heap.size, 0, none⟩ = some (.int .i64 ra) := cell_is HX2.out 0 rfl
  have x1 : w2.cell? ⟨w.heap.size, 1, none⟩ = some (.int .i64 ma) := cell_is HX2.out 1 rfl
  have hgb : ∀ k, (Value.slice ad L.length cap).ownBlock = some k → k ≠ bh ∧ k ≠ bm ∧ F k ∧ k < w.heap.size := fun k hk => by
    have hb := H.out.list.block k hk
    refine ⟨?_, ?_, hb.1, hb.2⟩
    · rintro rfl
      exact own_neT H.out.head (by decide) H.out.list hk
    · rintro rfl
      exact own_neM H.out.map H.out.list hk
  have how2 : Go.Sb.Own 101 3 F w2.drew (.slice ad L.length cap) L.length (allc (L.map en)) := by
    have h0 : Go.Sb.Own 101 3 F w (.slice ad L.length cap) L.length (allc (L.map en)) := by simpa using H.out.list
    exact h0.of (fun k hk hb => (HF2.out.block k (Nat.lt_of_lt_of_le hk HF1.out.size) (hgb k hb).2.1).trans (HF1.out.block k hk (hgb k hb).1))
  have HOW2 := Lib.hid how2
  have HGB := Lib.hid hgb
  have hlt2 : bh < w2.heap.size := lt_of_heap HH2.out
  clear how2 hgb
  have HC1 : Hid (w2.drew.heap[bh]? = some (.cells #[.func (.func fid) #[] caps, .slice ad L.length cap, .map (some bm), .int .i64 (g + 1)] 99 (0, 0))) := Lib.hid HH2.out
  go_region_law (refine step_append_Own rfl _ _ 97 rfl 101 (.agg #[.int .i64 0, .int .i64 0, .int .i64 0]) 3 24 Try.underlying97 infoE rfl (by decide) (.slice ad L.length cap) L.length _ rfl (HOW2.out.alloc _) (.slice (some ⟨w2.drew.heap.size, 0, none⟩) 1 1) 1 (allc [en (g + 1, (ra, ma))]) rfl (src_en w2.drew (g + 1) (ra, ma)) (by unfold maxLen; omega) (by omega) ?_; intro v3 w3 hv3 hf3 hn3 hd3; obtain ⟨g5, k5, rfl, hk5, hk6⟩ := own_some hv3 (by omega); have e1 : w3.heap[bh]? = some (.cells #[.func (.func fid) #[] caps, .slice ad L.length cap, .map (some bm), .int .i64 (g + 1)] 99 (0, 0)) := hf3.get ((heap_alloc_lt w2.drew _ bh hlt2).trans HC1.out) (fun hb => (HGB.out _ hb).1 rfl); have d1 : w3.cell? ⟨bh, 1, none⟩ = some (.slice ad L.length cap) := cell_is e1 1 rfl; have z1 := frozen_of e1 1; have E1 := Lib.hid e1; have HV3 := Lib.hid hv3; have HF3 := Lib.hid hf3; have HD3 := Lib.hid hd3; clear e1 hv3 hf3 hn3 hd3)
  all_goals
    have hmid := push_mid H.out HNEW.out HF1.out HF2.out HM2.out HGB.out HV3.out HF3.out E1.out
    have HR5 := Lib.hid hmid.1
    have HF5 := Lib.hid hmid.2
    clear hmid HV3 HF3 HD3 E1 d1 z1 c1 c3 HOW2 HC1
    clear x0 x1
    generalize w3.setCell ⟨bh, 1, none⟩ (.slice (some ⟨g5, 0, none⟩) (L.length + 1) k5) = w5 at *
    have c1 : w5.cell? ⟨bh, 1, none⟩ = some (.slice (some ⟨g5, 0, none⟩) (L.length + 1) k5) := cell_is HR5.out.head 1 rfl
    have HOK5 : Hid (∀ p ∈ L ++ [(g + 1, (ra, ma))], okx p.2) := Lib.hid (fun p hp => by
      rcases List.mem_append.1 hp with hp | hp
      · exact HOK.out p hp
      · simp only [List.mem_singleton] at hp
        subst hp
        exact HX.out)
    have HS5 := Lib.hid (HB.out.stab c w w5 F HST.out HF5.out (fun k hk => (HSF.out k hk).1))
    have HSF5 : Hid (∀ k, Sb k → ¬ ex F w k ∧ k < w5.heap.size) := Lib.hid (fun k hk => ⟨fun hx => hx.elim (HSF.out k hk).1 (fun h => by have := (HSF.out k hk).2; omega), Nat.lt_of_lt_of_le (HSF.out k hk).2 HF5.out.size⟩)
    go_wp2_with (go_at_call 49; refine (up_any HB.out L.length HR5.out (by omega) (by simp) HOK5.out HS5.out HSF5.out).mono ?_; rintro e w6 ⟨rfl, ⟨m6, hr6⟩, hc6, hf6⟩; have c6 : w6.cell? ⟨bh, 3, none⟩ = some (.int .i64 (g + 1)) := cell_is hr6.head 3 rfl; have HR6 := Lib.hid hr6; have HC6 := Lib.hid hc6; have HF6 := Lib.hid hf6; clear hr6 hc6 hf6 c1)
    go_ret
    exact ⟨rfl, ⟨_, m6, HR6.out⟩, HC6.out, (HF5.out.mono (fun _ _ h => .inl h)).trans HF6.out (fun k hk h => h.elim (fun h => .inl (h.elim id (fun h => by omega))) .inr)⟩

end Go.Proofs.Ytikimfdijkejpaa.HT
