/- The heap at one type of things: what take leaves, before it settles. -/
import Derived.Test.YtikimfdijkejpaaHTSwap
namespace Go.Proofs.Ytikimfdijkejpaa.HT
open Go.RowKit Go.Sb

theorem cutL_get {α : Type} {L : List (Int × α)} {i : Nat} {z : Int × α} (hz : L[L.length - 1]? = some z) (hi : i + 1 < L.length) (k : Nat) : (cutL L i)[k]? = if k < L.length - 1 then (if k = i then some z else L[k]?) else none := by
  have hg : L.getLast? = some z := by rw [List.getLast?_eq_getElem?]; exact hz
  unfold cutL
  rw [hg]
  simp only [List.getElem?_take]
  split
  · by_cases h : k = i
    · subst h
      rw [if_pos rfl, List.getElem?_set_self (by omega)]
    · rw [if_neg h, List.getElem?_set_ne (Ne.symm h)]
  · rfl

theorem cutL_eq {α : Type} {L : List (Int × α)} {i : Nat} {z : Int × α} (hz : L[L.length - 1]? = some z) : cutL L i = (L.set i z).take (L.length - 1) := by
  have hg : L.getLast? = some z := by rw [List.getLast?_eq_getElem?]; exact hz
  unfold cutL
  rw [hg]

section
variable {m ma mb : List (Int × Value)} {es es' : List HE} {e : HE} {v : Value}

/-- A map without one of its entries. -/
theorem places_less (h : Places m es) (hm : m = ma ++ (e.t, v) :: mb) (hp : (e :: es').Perm es) : ((ma ++ mb).map Prod.fst).Nodup ∧ (∀ t ∈ (ma ++ mb).map Prod.fst, ∃ x ∈ es', x.t = t) ∧ (∀ p ∈ m, p.1 ≠ e.t → p ∈ ma ++ mb) := by
  subst hm
  have hk := h.keys
  rw [List.map_append, List.map_cons, List.nodup_append] at hk
  have hk2 := List.nodup_cons.1 hk.2.1
  refine ⟨?_, fun t ht => ?_, fun p hp' hne => ?_⟩
  · rw [List.map_append, List.nodup_append]
    exact ⟨hk.1, hk2.2, fun a ha b hb => hk.2.2 a ha b (List.mem_cons_of_mem _ hb)⟩
  · have hne : t ≠ e.t := by
      rintro rfl
      rw [List.map_append, List.mem_append] at ht
      rcases ht with ht | ht
      · exact hk.2.2 _ ht _ (by simp) rfl
      · exact hk2.1 ht
    obtain ⟨x, hx, hxt⟩ := h.back t (by
      rw [List.map_append, List.mem_append] at ht ⊢
      exact ht.imp id (fun h => by rw [List.map_cons]; exact List.mem_cons_of_mem _ h))
    rcases List.mem_cons.1 (hp.mem_iff.2 hx) with h1 | h1
    · subst h1
      exact absurd hxt.symm hne
    · exact ⟨x, h1, hxt⟩
  · rcases List.mem_append.1 hp' with h1 | h1
    · exact List.mem_append_left _ h1
    · rcases List.mem_cons.1 h1 with h1 | h1
      · subst h1
        exact absurd rfl hne
      · exact List.mem_append_right _ h1
end

variable {L : List (Int × (Int × Int))} {m ma mb : List (Int × Value)} {v : Value} {i : Nat} {a z : Int × (Int × Int)}

/-- The last one goes. -/
theorem places_last (h : Places m (L.map en)) (ha : L[L.length - 1]? = some a) (hm : m = ma ++ (a.1, v) :: mb) : Places (ma ++ mb) ((L.take (L.length - 1)).map en) := by
  have hl := (List.getElem?_eq_some_iff.1 ha).1
  have hp : ((en a) :: (L.take (L.length - 1)).map en).Perm (L.map en) := by
    have h1 := takeL_perm (key := fun _ => 0) ha
    unfold takeL at h1
    rw [if_neg (by omega)] at h1
    exact h1.map en
  obtain ⟨h1, h2, h3⟩ := places_less h hm hp
  refine ⟨h1, fun k x hk => ?_, h2⟩
  rw [List.getElem?_map] at hk
  obtain ⟨y, hy, rfl⟩ := Option.map_eq_some_iff.1 hk
  rw [List.getElem?_take] at hy
  split at hy
  · rename_i hkl
    have h4 := h.hit k (en y) (by rw [List.getElem?_map, hy]; rfl)
    exact h3 _ h4 (h.tickets (i := k) (j := L.length - 1) (a := en y) (b := en a) (by rw [List.getElem?_map, hy]; rfl) (by rw [List.getElem?_map, ha]; rfl) (by omega))
  · cases hy

/-- One goes, the last one takes its place. -/
theorem places_cut (h : Places m (L.map en)) (hi : i + 1 < L.length) (ha : L[i]? = some a) (hz : L[L.length - 1]? = some z) (hm : m = ma ++ (a.1, v) :: mb) : Places (putM (ma ++ mb) z.1 (.int .i64 (i : Int))) ((cutL L i).map en) := by
  have hp : ((en a) :: (cutL L i).map en).Perm (L.map en) := (cutL_perm ha hi).map en
  obtain ⟨h1, h2, h3⟩ := places_less h hm hp
  refine ⟨by rw [putM_keys]; exact h1, fun k x hk => ?_, by rw [putM_keys]; exact h2⟩
  rw [List.getElem?_map] at hk
  obtain ⟨y, hy, rfl⟩ := Option.map_eq_some_iff.1 hk
  rw [cutL_get hz hi] at hy
  split at hy
  · by_cases hki : k = i
    · rw [if_pos hki] at hy
      subst hki
      cases hy
      have h4 := h.hit (L.length - 1) (en z) (by rw [List.getElem?_map, hz]; rfl)
      have h5 := h3 _ h4 (h.tickets (i := L.length - 1) (j := k) (a := en z) (b := en a) (by rw [List.getElem?_map, hz]; rfl) (by rw [List.getElem?_map, ha]; rfl) (by omega))
      have h6 := mem_putM (t := z.1) (v := .int .i64 (k : Int)) h5
      rwa [if_pos (show (en z).t = z.1 from rfl)] at h6
    · rw [if_neg hki] at hy
      have h4 := h.hit k (en y) (by rw [List.getElem?_map, hy]; rfl)
      have h5 := h3 _ h4 (h.tickets (i := k) (j := i) (a := en y) (b := en a) (by rw [List.getElem?_map, hy]; rfl) (by rw [List.getElem?_map, ha]; rfl) hki)
      have h6 := mem_putM (t := z.1) (v := .int .i64 (i : Int)) h5
      have hne : ¬ ((en y).t, Value.int .i64 (k : Int)).1 = z.1 := h.tickets (i := k) (j := L.length - 1) (a := en y) (b := en z) (by rw [List.getElem?_map, hy]; rfl) (by rw [List.getElem?_map, hz]; rfl) (by omega)
      rwa [if_neg hne] at h6
  · cases hy

/-- The entry of the last one is wiped, the list is cut. -/
theorem cut_own {F : Nat → Prop} {w : World} {g c : Nat} {M : List (Int × (Int × Int))} (h : Own 101 3 F w (.slice (some ⟨g, 0, none⟩) M.length c) M.length (allc (M.map en))) {k : Nat} (hk : k ≤ M.length) :
    Own 101 3 F w (.slice (some ⟨g, 0, none⟩) k c) k (allc ((M.take k).map en)) := by
  have h1 := h.cut hk
  rw [allc_take _ (en_wid M) k, ← List.map_take] at h1
  exact h1

/-- The last entry is wiped, the list is one shorter. -/
theorem wipe_mid {F : Nat → Prop} {w : World} {bh bm gg cap n : Nat} {fv : Value} {g : Int} {M : List (Int × (Int × Int))} {m : List (Int × Value)} (hown : Own 101 3 F w (.slice (some ⟨gg, 0, none⟩) n cap) M.length (allc (M.map en))) (hn : M.length = n) (hpos : 0 < n)
    (hh : w.heap[bh]? = some (.cells #[fv, .slice (some ⟨gg, 0, none⟩) n cap, .map (some bm), .int .i64 g] 99 (0, 0))) (hm : HasMap w bm m) (hp : Places m ((M.take (n - 1)).map en)) (fh : F bh) (fm : F bm) (hgb : gg ≠ bh) :
    HRep 99 101 3 F ((((w.setCell ⟨gg, (n - 1) * 3, none⟩ (.int .i64 0)).setCell ⟨gg, (n - 1) * 3 + 1, none⟩ (.int .i64 0)).setCell ⟨gg, (n - 1) * 3 + 2, none⟩ (.int .i64 0)).setCell ⟨bh, 1, none⟩ (.slice (some ⟨gg, 0, none⟩) (n - 1) cap)) bh fv g ((M.take (n - 1)).map en) (.slice (some ⟨gg, 0, none⟩) (n - 1) cap) bm m ∧
      Fr F w ((((w.setCell ⟨gg, (n - 1) * 3, none⟩ (.int .i64 0)).setCell ⟨gg, (n - 1) * 3 + 1, none⟩ (.int .i64 0)).setCell ⟨gg, (n - 1) * 3 + 2, none⟩ (.int .i64 0)).setCell ⟨bh, 1, none⟩ (.slice (some ⟨gg, 0, none⟩) (n - 1) cap)) := by
  subst hn
  have hF : F gg := (hown.block gg rfl).1
  have h1 : Own 101 3 F (((w.setCell ⟨gg, (M.length - 1) * 3, none⟩ (.int .i64 0)).setCell ⟨gg, (M.length - 1) * 3 + 1, none⟩ (.int .i64 0)).setCell ⟨gg, (M.length - 1) * 3 + 2, none⟩ (.int .i64 0)) (.slice (some ⟨gg, 0, none⟩) M.length cap) (M.set (M.length - 1) (0, (0, 0))).length (allc ((M.set (M.length - 1) (0, (0, 0))).map en)) := en_set hown (by omega) (0, (0, 0))
  have hl : (M.set (M.length - 1) (0, (0, 0))).length = M.length := List.length_set
  have h2 : Own 101 3 F (((w.setCell ⟨gg, (M.length - 1) * 3, none⟩ (.int .i64 0)).setCell ⟨gg, (M.length - 1) * 3 + 1, none⟩ (.int .i64 0)).setCell ⟨gg, (M.length - 1) * 3 + 2, none⟩ (.int .i64 0)) (.slice (some ⟨gg, 0, none⟩) (M.length - 1) cap) (M.length - 1) (allc (((M.set (M.length - 1) (0, (0, 0))).take (M.length - 1)).map en)) := cut_own (by rw [hl]; rw [hl] at h1; exact h1) (by rw [hl]; omega)
  have ht : (M.set (M.length - 1) (0, (0, 0))).take (M.length - 1) = M.take (M.length - 1) := by rw [List.take_set_of_le (Nat.le_refl _)]
  rw [ht] at h2
  have hfr : Fr F w (((w.setCell ⟨gg, (M.length - 1) * 3, none⟩ (.int .i64 0)).setCell ⟨gg, (M.length - 1) * 3 + 1, none⟩ (.int .i64 0)).setCell ⟨gg, (M.length - 1) * 3 + 2, none⟩ (.int .i64 0)) := (((Fr.refl F w).setCell (p := ⟨gg, (M.length - 1) * 3, none⟩) (.inl hF) _).setCell (p := ⟨gg, (M.length - 1) * 3 + 1, none⟩) (.inl hF) _).setCell (p := ⟨gg, (M.length - 1) * 3 + 2, none⟩) (.inl hF) _
  have hh2 : ((((w.setCell ⟨gg, (M.length - 1) * 3, none⟩ (.int .i64 0)).setCell ⟨gg, (M.length - 1) * 3 + 1, none⟩ (.int .i64 0)).setCell ⟨gg, (M.length - 1) * 3 + 2, none⟩ (.int .i64 0))).heap[bh]? = w.heap[bh]? := by
    rw [heap_setCell_ne _ _ _ _ (fun e => hgb e.symm), heap_setCell_ne _ _ _ _ (fun e => hgb e.symm), heap_setCell_ne _ _ _ _ (fun e => hgb e.symm)]
  refine ⟨⟨?_, ?_, ?_, hp, fh, fm, en_wid _, ?_⟩, hfr.setCell (p := ⟨bh, 1, none⟩) (.inl fh) _⟩
  · have := heap_setCell_eq 1 (.slice (some ⟨gg, 0, none⟩) (M.length - 1) cap) (hh2.trans hh)
    simpa using this
  · have h3 := h2.of (w' := ((((w.setCell ⟨gg, (M.length - 1) * 3, none⟩ (.int .i64 0)).setCell ⟨gg, (M.length - 1) * 3 + 1, none⟩ (.int .i64 0)).setCell ⟨gg, (M.length - 1) * 3 + 2, none⟩ (.int .i64 0))).setCell ⟨bh, 1, none⟩ (.slice (some ⟨gg, 0, none⟩) (M.length - 1) cap)) (fun k _ hb => heap_setCell_ne _ _ _ _ (fun e => hgb (by simp only [Value.ownBlock, Option.some.injEq] at hb; exact hb.trans e)))
    rw [List.length_map, List.length_take, Nat.min_eq_left (by omega)]
    exact h3
  · exact (((hm.setCell _ _).setCell _ _).setCell _ _).setCell _ _
  · intro e he u hu
    obtain ⟨p, _, rfl⟩ := List.mem_map.1 he
    simp only [en, List.mem_cons, List.not_mem_nil, or_false] at hu
    rcases hu with rfl | rfl <;> rfl

theorem take_wipe {L : List (Int × (Int × Int))} {i : Nat} {z : Int × (Int × Int)} (hz : L[L.length - 1]? = some z) : (L.set i z).take (L.length - 1) = cutL L i := (cutL_eq hz).symm

end Go.Proofs.Ytikimfdijkejpaa.HT
