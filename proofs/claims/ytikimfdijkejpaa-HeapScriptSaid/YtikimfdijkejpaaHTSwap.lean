/- The heap at one type of things: swap. -/
import Derived.Test.YtikimfdijkejpaaRows
import Derived.Test.YtikimfdijkejpaaHRep
import Derived.Test.YtikimfdijkejpaaHpPlain
import Derived.BigRegion
import Derived.StillTailTactics
namespace Go.Proofs.Ytikimfdijkejpaa.HT
open Go.RowKit Go.Sb

theorem cell_fr {F : Nat → Prop} {a b : World} (h : Fr F a b) {p : Addr} {u : Value} (hc : a.cell? p = some u) (hn : ¬ F p.block) : b.cell? p = some u := by
  rw [World.cell?_of_block (w := a) (h.block _ (World.block_lt_of_cell? a _ hc) hn)]
  exact hc
theorem hf_join {S : Nat → Prop} {a b c : World} (h : Fr (fun _ => False) a b) (k : Fr S b.drew c) : Fr S a c := ((h.mono (fun _ _ h => h.elim)).drew).trans k (fun _ _ h => h)
theorem fr_join {S : Nat → Prop} {a b c : World} (h : Fr S a b) (k : Fr S b.drew c) : Fr S a c := h.drew.trans k (fun _ _ h => h)

/-- An entry of a thing. -/
def en (p : Int × (Int × Int)) : HE := ⟨p.1, [.int .i64 p.2.1, .int .i64 p.2.2]⟩
theorem en_wid (L : List (Int × (Int × Int))) : ∀ e ∈ L.map en, e.cs.length + 1 = 3 := fun e he => by
  obtain ⟨p, _, rfl⟩ := List.mem_map.1 he
  rfl

theorem en_cells {F : Nat → Prop} {w : World} {g n c : Nat} {L : List (Int × (Int × Int))} (h : Own 101 3 F w (.slice (some ⟨g, 0, none⟩) n c) L.length (allc (L.map en))) {i : Nat} {p : Int × (Int × Int)} (hp : L[i]? = some p) :
    w.cell? ⟨g, i * 3, none⟩ = some (.int .i64 p.1) ∧ w.cell? ⟨g, i * 3 + 1, none⟩ = some (.int .i64 p.2.1) ∧ w.cell? ⟨g, i * 3 + 2, none⟩ = some (.int .i64 p.2.2) := by
  have hg : (L.map en)[i]? = some (en p) := by rw [List.getElem?_map, hp]; rfl
  refine ⟨h.cell rfl ?_, h.cell rfl ?_, h.cell rfl ?_⟩
  · exact (allc_at _ (en_wid L) i _ hg 0 (by decide)).trans rfl
  · exact (allc_at _ (en_wid L) i _ hg 1 (by decide)).trans rfl
  · exact (allc_at _ (en_wid L) i _ hg 2 (by decide)).trans rfl

theorem en_set {F : Nat → Prop} {w : World} {g n c : Nat} {L : List (Int × (Int × Int))} (h : Own 101 3 F w (.slice (some ⟨g, 0, none⟩) n c) L.length (allc (L.map en))) {i : Nat} (hi : i < L.length) (p : Int × (Int × Int)) :
    Own 101 3 F (((w.setCell ⟨g, i * 3, none⟩ (.int .i64 p.1)).setCell ⟨g, i * 3 + 1, none⟩ (.int .i64 p.2.1)).setCell ⟨g, i * 3 + 2, none⟩ (.int .i64 p.2.2)) (.slice (some ⟨g, 0, none⟩) n c) (L.set i p).length (allc ((L.set i p).map en)) := by
  have h1 := (((h.setAt (g := g) rfl (k := i * 3) (by omega) (.int .i64 p.1)).setAt (g := g) rfl (k := i * 3 + 1) (by omega) (.int .i64 p.2.1)).setAt (g := g) rfl (k := i * 3 + 2) (by omega) (.int .i64 p.2.2))
  rw [allc_set3 _ (en_wid L) i p.1 _ _ (by simpa using hi)] at h1
  rw [List.length_set, List.map_set]
  exact h1

set_option maxRecDepth 100000 in
set_option maxHeartbeats 2000000 in
theorem swap_any (F : Nat → Prop) (bh bm : Nat) (fv lv : Value) (g : Int) (L : List (Int × (Int × Int))) (m : List (Int × Value)) (w : World) (i j : Nat) (a b : Int × (Int × Int)) (h : HRep 99 101 3 F w bh fv g (L.map en) lv bm m)
    (hi : L[i]? = some a) (hj : L[j]? = some b) (hne : i ≠ j) :
    Calls Try.prog 72 #[.pointer (some ⟨bh, 0, none⟩), .int .i64 (i : Int), .int .i64 (j : Int)] w fun e w' => e = .returned (.tuple #[]) ∧ (∃ m', HRep 99 101 3 F w' bh fv g ((swL L i j).map en) lv bm m') ∧ Fr F w w' := by
  have hil := (List.getElem?_eq_some_iff.1 hi).1
  have hjl := (List.getElem?_eq_some_iff.1 hj).1
  obtain ⟨gg, cap, rfl, hcap, hcm⟩ := h.some hil
  have hown : Own 101 3 F w (.slice (some ⟨gg, 0, none⟩) L.length cap) L.length (allc (L.map en)) := by simpa using h.list
  have c1 : w.cell? ⟨bh, 1, none⟩ = some (.slice (some ⟨gg, 0, none⟩) L.length cap) := cell_is h.head 1 rfl
  have c2 : w.cell? ⟨bh, 2, none⟩ = some (.map (some bm)) := cell_is h.head 2 rfl
  obtain ⟨i0, i1, i2⟩ := en_cells hown hi
  obtain ⟨j0, j1, j2⟩ := en_cells hown hj
  have hne2 : bh ≠ gg := by
    rcases hown.2 with ⟨hv, _⟩ | ⟨g', cap', cur, hv, _, hgg, _⟩
    · cases hv
    · cases hv
      exact ne_of_types h.head hgg (by decide)
  have fg : ∀ k, w.frozen? ⟨gg, k, none⟩ = false := fun k => hown.frozen rfl k
  have f0 := fg (i * 3)
  have f1 := fg (i * 3 + 1)
  have f2 := fg (i * 3 + 2)
  have f3 := fg (j * 3)
  have f4 := fg (j * 3 + 1)
  have f5 := fg (j * 3 + 2)
  have hown2 := en_set (en_set hown hil b) (by rw [List.length_set]; exact hjl) a
  have HOWN := Lib.hid hown2
  have H := Lib.hid h
  have HI := Lib.hid hi
  have HJ := Lib.hid hj
  have HO1 := Lib.hid hown
  clear h hown hown2 fg hi hj
  go_enter Try.func72, Try.ntmps72
  go_wp2_with (fail)
  go_region
  have hf6 : Fr (fun k => k = gg) w (((((((w.setCell ⟨gg, i * 3, none⟩ (.int .i64 b.1)).setCell ⟨gg, i * 3 + 1, none⟩ (.int .i64 b.2.1)).setCell ⟨gg, i * 3 + 2, none⟩ (.int .i64 b.2.2)).setCell ⟨gg, j * 3, none⟩ (.int .i64 a.1)).setCell ⟨gg, j * 3 + 1, none⟩ (.int .i64 a.2.1)).setCell ⟨gg, j * 3 + 2, none⟩ (.int .i64 a.2.2)).drew) := ((((((((Fr.refl (fun k => k = gg) w).setCell (p := ⟨gg, i * 3, none⟩) (.inl rfl) _).setCell (p := ⟨gg, i * 3 + 1, none⟩) (.inl rfl) _).setCell (p := ⟨gg, i * 3 + 2, none⟩) (.inl rfl) _).setCell (p := ⟨gg, j * 3, none⟩) (.inl rfl) _).setCell (p := ⟨gg, j * 3 + 1, none⟩) (.inl rfl) _).setCell (p := ⟨gg, j * 3 + 2, none⟩) (.inl rfl) _)).drew
  have HF6 := Lib.hid hf6
  have HOW6 := Lib.hid (Own.drew HOWN.out)
  clear hf6 HOWN c1 c2 i0 i1 i2 j0 j1 j2 f0 f1 f2 f3 f4 f5
  generalize ((((((w.setCell ⟨gg, i * 3, none⟩ (.int .i64 b.1)).setCell ⟨gg, i * 3 + 1, none⟩ (.int .i64 b.2.1)).setCell ⟨gg, i * 3 + 2, none⟩ (.int .i64 b.2.2)).setCell ⟨gg, j * 3, none⟩ (.int .i64 a.1)).setCell ⟨gg, j * 3 + 1, none⟩ (.int .i64 a.2.1)).setCell ⟨gg, j * 3 + 2, none⟩ (.int .i64 a.2.2)).drew = w6 at *
  have hh6 := HF6.out.get H.out.head hne2
  have hgm : gg ≠ bm := fun e => by
    rcases HO1.out.2 with ⟨hv, _⟩ | ⟨g', cap', cur, hv, _, hgg, _⟩
    · cases hv
    · cases hv
      exact H.out.map.ne hgg e
  have hm6 : HasMap w6 bm m := H.out.map.of (HF6.out.block bm H.out.map.lt (fun e => hgm e.symm))
  have hij : ((L.set i b).set j a)[i]? = some b := by rw [List.getElem?_set_ne (Ne.symm hne), List.getElem?_set_self hil]
  have hji : ((L.set i b).set j a)[j]? = some a := by rw [List.getElem?_set_self (by rw [List.length_set]; exact hjl)]
  have hw6 : Own 101 3 F w6 (.slice (some ⟨gg, 0, none⟩) L.length cap) ((L.set i b).set j a).length (allc (((L.set i b).set j a).map en)) := HOW6.out
  have i0 := (en_cells hw6 hij).1
  have j0 := (en_cells hw6 hji).1
  have c1 : w6.cell? ⟨bh, 1, none⟩ = some (.slice (some ⟨gg, 0, none⟩) L.length cap) := cell_is hh6 1 rfl
  have c2 : w6.cell? ⟨bh, 2, none⟩ = some (.map (some bm)) := cell_is hh6 2 rfl
  have eb : ((b.1 : Int), Value.int .i64 (j : Int)) ∈ m := H.out.ok.hit j (en b) (by rw [List.getElem?_map, HJ.out]; rfl)
  have ea : ((a.1 : Int), Value.int .i64 (i : Int)) ∈ m := H.out.ok.hit i (en a) (by rw [List.getElem?_map, HI.out]; rfl)
  have hab : a.1 ≠ b.1 := H.out.ok.tickets (a := en a) (b := en b) (by rw [List.getElem?_map, HI.out]; rfl) (by rw [List.getElem?_map, HJ.out]; rfl) hne
  obtain ⟨ma, mb, hm1, hm2, hm3⟩ := split_at H.out.ok.keys eb
  have ep : putM m b.1 (.int .i64 (i : Int)) = ma ++ (b.1, .int .i64 (i : Int)) :: mb := by rw [hm1]; exact putM_split hm2 hm3
  have ea2 : (a.1, Value.int .i64 (i : Int)) ∈ putM m b.1 (.int .i64 (i : Int)) := by
    have := mem_putM (t := b.1) (v := .int .i64 (i : Int)) ea
    rwa [if_neg hab] at this
  obtain ⟨mc, md, hm4, hm5, hm6'⟩ := split_at (by rw [putM_keys]; exact H.out.ok.keys) ea2
  have ep2 : putM (putM m b.1 (.int .i64 (i : Int))) a.1 (.int .i64 (j : Int)) = mc ++ (a.1, .int .i64 (j : Int)) :: md := by rw [hm4]; exact putM_split hm5 hm6'
  have HH6 := Lib.hid hh6
  have HM6 : Hid (HasMap w6 bm (ma ++ (b.1, .int .i64 (j : Int)) :: mb)) := Lib.hid (by rw [← hm1]; exact hm6)
  have HK := Lib.hid (And.intro hm2 hm5)
  have HEP := Lib.hid (And.intro ep (And.intro hm4 ep2))
  clear hh6 hm6 hij hji hw6 eb ea hab hm1 hm2 hm3 ep ea2 hm4 hm5 hm6' ep2
  have hbml : bm < w6.heap.size := HM6.out.lt
  have hbne : bh ≠ bm := fun e => HM6.out.ne HH6.out e
  go_wp2_with (fail)
  go_still_tail 13, (by kernel_rfl)
  change wpList _ _ _ _ _ w6.drew
  go_wp2_with (at_mapUpdate; refine wpList_mapUpdate_old _ rfl _ _ _ 82 rfl 3 3 Try.underlying82 Try.underlying3 bm ma mb b.1 (.int .i64 (j : Int)) (.int .i64 (i : Int)) rfl rfl rfl HM6.out.drew HK.out.1 ?_; intro o7 ho7)
  have f7 : Fr (fun k => k = bm) w6 (w6.drew.putObj bm o7) := ((Fr.refl (fun k => k = bm) w6).drew).putObj (.inl rfl) _
  have hm7 : HasMap (w6.drew.putObj bm o7) bm (mc ++ (a.1, .int .i64 (i : Int)) :: md) := by
    rw [← HEP.out.2.1, HEP.out.1]
    exact HasMap.put (by simpa using hbml) ho7
  have HF7 := Lib.hid f7
  have HM7 := Lib.hid hm7
  clear f7 hm7 ho7 c1 c2 i0
  have j7 : (w6.drew.putObj bm o7).cell? ⟨gg, j * 3, none⟩ = some (.int .i64 a.1) := by
    rw [World.cell?_of_block (w := w6) (HF7.out.block gg (World.block_lt_of_cell? _ _ j0) hgm)]
    exact j0
  clear j0
  generalize w6.drew.putObj bm o7 = w7 at *
  have hh7 := HF7.out.get HH6.out hbne
  have c1 : w7.cell? ⟨bh, 1, none⟩ = some (.slice (some ⟨gg, 0, none⟩) L.length cap) := cell_is hh7 1 rfl
  have c2 : w7.cell? ⟨bh, 2, none⟩ = some (.map (some bm)) := cell_is hh7 2 rfl
  have HH7 := Lib.hid hh7
  clear hh7
  go_wp2_with (fail)
  go_still_tail 13, (by kernel_rfl)
  change wpList _ _ _ _ _ w7.drew
  go_wp2_with (at_mapUpdate; refine wpList_mapUpdate_old _ rfl _ _ _ 82 rfl 3 3 Try.underlying82 Try.underlying3 bm mc md a.1 (.int .i64 (i : Int)) (.int .i64 (j : Int)) rfl rfl rfl HM7.out.drew HK.out.2 ?_; intro o8 ho8)
  go_end0
  have hbml7 := HM7.out.lt
  have f8 : Fr (fun k => k = bm) w6 (w7.drew.putObj bm o8) := (HF7.out.drew).putObj (.inl rfl) _
  have ffin : Fr F w (w7.drew.putObj bm o8) := ((HF6.out.mono (F' := fun k => k = gg ∨ k = bm) (fun _ _ h => .inl h)).trans f8 (fun _ _ h => .inr h)).mono (fun k hk h => h.elim (fun e => e ▸ (HO1.out.block gg rfl).1) (fun e => e ▸ H.out.fm))
  have hfin : HRep 99 101 3 F (w7.drew.putObj bm o8) bh fv g (((L.set i b).set j a).map en) (.slice (some ⟨gg, 0, none⟩) L.length cap) bm (mc ++ (a.1, .int .i64 (j : Int)) :: md) := by
    refine ⟨f8.get HH6.out hbne, ?_, HasMap.put (by simpa using hbml7) ho8, ?_, H.out.fh, H.out.fm, en_wid _, ?_⟩
    · have h1 := Own.of (w' := w7.drew.putObj bm o8) HOW6.out (fun k hk hb => f8.block k hk (fun e => by
        simp only [Value.ownBlock, Option.some.injEq] at hb
        exact hgm (hb.trans e)))
      rw [List.length_map]
      exact h1
    · have h1 := H.out.ok.swap (i := i) (j := j) (a := en a) (b := en b) (by rw [List.getElem?_map, HI.out]; rfl) (by rw [List.getElem?_map, HJ.out]; rfl) hne
      rw [List.map_set, List.map_set, ← HEP.out.2.2]
      exact h1
    · intro e he u hu
      obtain ⟨p, _, rfl⟩ := List.mem_map.1 he
      simp only [en, List.mem_cons, List.not_mem_nil, or_false] at hu
      rcases hu with rfl | rfl <;> rfl
  rw [← swL_eq HI.out HJ.out] at hfin
  exact ⟨rfl, ⟨_, hfin⟩, ffin⟩

/-- The same, the places spelt as the walk spells them. -/
theorem swap_at {F : Nat → Prop} {bh bm : Nat} {fv lv : Value} {g : Int} {L : List (Int × (Int × Int))} {m : List (Int × Value)} {w : World} {ii ji : Int} (i j : Nat) (h : HRep 99 101 3 F w bh fv g (L.map en) lv bm m)
    (hi' : ii = (i : Int)) (hj' : ji = (j : Int)) (hi : i < L.length) (hj : j < L.length) (hne : i ≠ j) :
    Calls Try.prog 72 #[.pointer (some ⟨bh, 0, none⟩), .int .i64 ii, .int .i64 ji] w fun e w' => e = .returned (.tuple #[]) ∧ (∃ m', HRep 99 101 3 F w' bh fv g ((swL L i j).map en) lv bm m') ∧ Fr F w w' := by
  subst hi' hj'
  exact swap_any F bh bm fv lv g L m w i j _ _ h (List.getElem?_eq_getElem hi) (List.getElem?_eq_getElem hj) hne

end Go.Proofs.Ytikimfdijkejpaa.HT
