/- The document's heap: out, top. -/
import Derived.Test.YtikimfdijkejpaaHpRef2
import Derived.Deep.RegionHeld3
namespace Go.Proofs.Ytikimfdijkejpaa.HT
open Go.RowKit Go.Sb

theorem out_neg {br : Nat} {w : World} : Calls Try.prog 77 #[.pointer (some ⟨br, 0, none⟩), .int .i64 (-1)] w fun e w' => e = .returned (.tuple #[]) ∧ w = w' := by
  go_enter Try.func77, Try.ntmps77
  go_wp2_with (fail)
  refine bodyPost_ret (results_none rfl _ _ _) rfl ?_
  exact ⟨rfl, rfl⟩

/-- So many entries from a place on, as an append takes them. -/
theorem src_part {F : Nat → Prop} {w : World} {g n c : Nat} {M : List (Int × (Int × Int))} (h : Own 113 3 F w (.slice (some ⟨g, 0, none⟩) n c) M.length (allc (M.map en))) (k m cc : Nat) (hk : k + m ≤ M.length) :
    Src w (.slice (some ⟨g, k * 3, none⟩) m cc) m 3 (allc (((M.drop k).take m).map en)) := by
  refine ⟨?_, allc_one, .inr ⟨_, _, rfl, fun j u hu => ?_⟩⟩
  · rw [allc_length _ (en_wid _), List.length_map, List.length_take, List.length_drop]
    congr 1
    omega
  · have ha : (⟨g, k * 3, none⟩ : Addr).add j = ⟨g, k * 3 + j, none⟩ := by unfold Addr.add; split <;> simp_all
    rw [ha]
    have hj := (List.getElem?_eq_some_iff.1 hu).1
    rw [allc_length _ (en_wid _), List.length_map, List.length_take, List.length_drop] at hj
    have hq : j / 3 < m := by omega
    have hp : M[k + j / 3]? = some (M[k + j / 3]'(by omega)) := List.getElem?_eq_getElem (by omega)
    have hp2 : (((M.drop k).take m).map en)[j / 3]? = some (en (M[k + j / 3]'(by omega))) := by
      rw [List.getElem?_map, List.getElem?_take, if_pos hq, List.getElem?_drop, hp]
      rfl
    have e1 := allc_at _ (en_wid ((M.drop k).take m)) (j / 3) _ hp2 (j % 3) (Nat.mod_lt _ (by decide))
    rw [show j / 3 * 3 + j % 3 = j by omega] at e1
    rw [e1] at hu
    have hp3 : (M.map en)[k + j / 3]? = some (en (M[k + j / 3]'(by omega))) := by rw [List.getElem?_map, hp]; rfl
    have e2 := allc_at _ (en_wid M) (k + j / 3) _ hp3 (j % 3) (Nat.mod_lt _ (by decide))
    rw [show (k + j / 3) * 3 + j % 3 = k * 3 + j by omega] at e2
    exact h.cell rfl (e2.trans hu)

set_option maxRecDepth 100000 in
set_option maxHeartbeats 1000000 in
theorem out_some {F : Nat → Prop} {br : Nat} {way last : Int} {rv : Value} {M : List (Int × (Int × Int))} {i : Nat} {w : World} (h : RRp F w br way last rv M) (hL : M.length ≤ 4398046511104) (hi : i < M.length) :
    Calls Try.prog 77 #[.pointer (some ⟨br, 0, none⟩), .int .i64 (i : Int)] w fun e w' => e = .returned (.tuple #[]) ∧ (∃ rv', RRp (ex F w) w' br way last rv' (M.eraseIdx i)) ∧ Fr F w w' := by
  obtain ⟨gg, cap, rfl, hcap, hmax⟩ := h.some (by omega)
  have c2 : w.cell? ⟨br, 2, none⟩ = some (.slice (some ⟨gg, 0, none⟩) M.length cap) := cell_is h.head 2 rfl
  have hlt := lt_of_heap h.head
  have H := Lib.hid h
  have hmi : min i M.length = i := by omega
  have HSRC := Lib.hid (src_part h.ls 0 i cap (by omega))
  clear h
  unfold maxLen at hmax
  by_cases hz : cap = i + 1
  · subst hz
    have HZS : Hid (∀ W : World, Src W (.slice (some ⟨gg, 0, none⟩) 0 0) 0 3 (allc (((M.drop (i + 1)).take 0).map en))) := Lib.hid (fun W => ⟨by simp [allc], by simp [allc], .inr ⟨_, _, rfl, fun j u hu => by simp [allc] at hu⟩⟩)
    go_enter Try.func77, Try.ntmps77
    go_wp2_with (first
      | (at_builtin; refine wpList_append_Own _ rfl _ _ 102 rfl 113 (.agg #[.int .i64 0, .int .i64 0, .int .i64 0]) 3 24 Try.underlying102 infoR rfl (by decide) (.slice a3 n3 k3) i (allc ((M.take i).map en)) rfl HV3.out (.slice (some ⟨gg, 0, none⟩) 0 0) 0 (allc (((M.drop (i + 1)).take 0).map en)) rfl (HZS.out _) (by unfold maxLen; omega) (by omega) ?_; intro v5 w5 hv5 hf5 hn5 hd5; have hno5 := own_neT H3.out.head (by decide) HV3.out; have hh5 := hf5.get H3.out.head hno5; have hc5 : w5.cell? ⟨br, 2, none⟩ = some (.slice (some ⟨gg, 0, none⟩) M.length (i + 1)) := cell_is hh5 2 rfl; have hz5 := frozen_of hh5 2; obtain ⟨a5, n5, k5, rfl⟩ := own_slice hv5; have HV5 := Lib.hid hv5; have HF5 := Lib.hid hf5; have HH5 := Lib.hid hh5; clear hv5 hf5 hn5 hd5 hno5 hh5)
      | (at_builtin; refine wpList_append_Own _ rfl _ _ 102 rfl 113 (.agg #[.int .i64 0, .int .i64 0, .int .i64 0]) 3 24 Try.underlying102 infoR rfl (by decide) (.slice none 0 0) 0 [] rfl (Own.nil 113 3 (fun k => w.heap.size ≤ k) _) (.slice (some ⟨gg, 0, none⟩) i (i + 1)) i (allc (((M.drop 0).take i).map en)) rfl (by simpa using HSRC.out) (by unfold maxLen; omega) (by omega) ?_; intro v3 w3 hv3 hf3 hn3 hd3; have hf3' : Fr (fun _ => False) w w3 := hf3.mono (fun k _ h => by cases h); have hv3' : Own 113 3 (fun k => w.heap.size ≤ k) w3 v3 i (allc ((M.take i).map en)) := (by simpa using hv3.mono (fun k _ h => h.elim id id)); have H3 := Lib.hid (H.out.fr hf3' (fun _ _ _ h => h)); have d2 : w3.cell? ⟨br, 2, none⟩ = some (.slice (some ⟨gg, 0, none⟩) M.length (i + 1)) := cell_is H3.out.head 2 rfl; have hll3 := lenV_own hv3'; obtain ⟨a3, n3, k3, rfl⟩ := own_slice hv3'; have HV3 := Lib.hid hv3'; have HF3 := Lib.hid hf3'; clear hv3 hf3 hn3 hd3 hv3' hf3'))
    go_end0
    have hlist : (M.take i).map en ++ (((M.drop (i + 1)).take 0).map en) = (M.eraseIdx i).map en := by
      rw [List.take_of_length_le (l := M.drop (i + 1)) (by simp; try omega), ← List.map_append, List.eraseIdx_eq_take_drop_succ]
    have hlen : i + 0 = (M.eraseIdx i).length := by rw [List.length_eraseIdx, if_pos hi]; omega
    have hv := HV5.out
    rw [hlen, show allc ((M.take i).map en) ++ allc (((M.drop (i + 1)).take 0).map en) = allc ((M.eraseIdx i).map en) by rw [← hlist]; simp [allc]] at hv
    have hset := heap_setCell_eq 2 (.slice a5 n5 k5) HH5.out
    simp only [List.setIfInBounds_toArray, List.set_cons_zero, List.set_cons_succ] at hset
    have hno := own_neT HH5.out (by decide) hv
    have hs3 := HF3.out.size
    have hown3 := fun k (hk : (Value.slice a3 n3 k3).ownBlock = some k) => (HV3.out.block k hk).1
    refine ⟨rfl, ⟨_, hset, (hv.of (fun k _ hk => heap_setCell_ne _ _ _ _ (fun e => hno (by rw [hk, e])))).mono (fun k _ hk => ?_), .inl H.out.fb⟩, (((HF3.out.mono (fun _ _ h => h.elim)).trans HF5.out (fun k hk he => ?_)).setCell (p := ⟨br, 2, none⟩) (.inl H.out.fb) _)⟩
    · rcases hk with hk | hk
      · exact .inr hk
      · exact .inr (Nat.le_trans hs3 hk)
    · exact absurd (show w.heap.size ≤ k from hown3 k he) (by omega)
  · go_enter Try.func77, Try.ntmps77
    go_wp2_with (first
      | (at_builtin; refine wpList_append_Own _ rfl _ _ 102 rfl 113 (.agg #[.int .i64 0, .int .i64 0, .int .i64 0]) 3 24 Try.underlying102 infoR rfl (by decide) (.slice a3 n3 k3) i (allc ((M.take i).map en)) rfl HV3.out (.slice (some ⟨gg, (i + 1) * 3, none⟩) (M.length - (i + 1)) (cap - (i + 1))) (M.length - (i + 1)) (allc (((M.drop (i + 1)).take (M.length - (i + 1))).map en)) rfl (src_part H3.out.ls (i + 1) (M.length - (i + 1)) (cap - (i + 1)) (by omega)) (by unfold maxLen; omega) (by omega) ?_; intro v5 w5 hv5 hf5 hn5 hd5; have hno5 := own_neT H3.out.head (by decide) HV3.out; have hh5 := hf5.get H3.out.head hno5; have hc5 : w5.cell? ⟨br, 2, none⟩ = some (.slice (some ⟨gg, 0, none⟩) M.length cap) := cell_is hh5 2 rfl; have hz5 := frozen_of hh5 2; obtain ⟨a5, n5, k5, rfl⟩ := own_slice hv5; have HV5 := Lib.hid hv5; have HF5 := Lib.hid hf5; have HH5 := Lib.hid hh5; clear hv5 hf5 hn5 hd5 hno5 hh5)
      | (at_builtin; refine wpList_append_Own _ rfl _ _ 102 rfl 113 (.agg #[.int .i64 0, .int .i64 0, .int .i64 0]) 3 24 Try.underlying102 infoR rfl (by decide) (.slice none 0 0) 0 [] rfl (Own.nil 113 3 (fun k => w.heap.size ≤ k) _) (.slice (some ⟨gg, 0, none⟩) i cap) i (allc (((M.drop 0).take i).map en)) rfl (by simpa using HSRC.out) (by unfold maxLen; omega) (by omega) ?_; intro v3 w3 hv3 hf3 hn3 hd3; have hf3' : Fr (fun _ => False) w w3 := hf3.mono (fun k _ h => by cases h); have hv3' : Own 113 3 (fun k => w.heap.size ≤ k) w3 v3 i (allc ((M.take i).map en)) := (by simpa using hv3.mono (fun k _ h => h.elim id id)); have H3 := Lib.hid (H.out.fr hf3' (fun _ _ _ h => h)); have d2 : w3.cell? ⟨br, 2, none⟩ = some (.slice (some ⟨gg, 0, none⟩) M.length cap) := cell_is H3.out.head 2 rfl; have hll3 := lenV_own hv3'; obtain ⟨a3, n3, k3, rfl⟩ := own_slice hv3'; have HV3 := Lib.hid hv3'; have HF3 := Lib.hid hf3'; clear hv3 hf3 hn3 hd3 hv3' hf3'))
    go_end0
    have hlist : (M.take i).map en ++ (((M.drop (i + 1)).take (M.length - (i + 1))).map en) = (M.eraseIdx i).map en := by
      rw [List.take_of_length_le (l := M.drop (i + 1)) (by simp), ← List.map_append, List.eraseIdx_eq_take_drop_succ]
    have hlen : i + (M.length - (i + 1)) = (M.eraseIdx i).length := by rw [List.length_eraseIdx, if_pos hi]; omega
    have hv := HV5.out
    rw [hlen, show allc ((M.take i).map en) ++ allc (((M.drop (i + 1)).take (M.length - (i + 1))).map en) = allc ((M.eraseIdx i).map en) by rw [← hlist]; simp [allc]] at hv
    have hset := heap_setCell_eq 2 (.slice a5 n5 k5) HH5.out
    simp only [List.setIfInBounds_toArray, List.set_cons_zero, List.set_cons_succ] at hset
    have hno := own_neT HH5.out (by decide) hv
    have hs3 := HF3.out.size
    have hown3 := fun k (hk : (Value.slice a3 n3 k3).ownBlock = some k) => (HV3.out.block k hk).1
    refine ⟨rfl, ⟨_, hset, (hv.of (fun k _ hk => heap_setCell_ne _ _ _ _ (fun e => hno (by rw [hk, e])))).mono (fun k _ hk => ?_), .inl H.out.fb⟩, (((HF3.out.mono (fun _ _ h => h.elim)).trans HF5.out (fun k hk he => ?_)).setCell (p := ⟨br, 2, none⟩) (.inl H.out.fb) _)⟩
    · rcases hk with hk | hk
      · exact .inr hk
      · exact .inr (Nat.le_trans hs3 hk)
    · exact absurd (show w.heap.size ≤ k from hown3 k he) (by omega)

end Go.Proofs.Ytikimfdijkejpaa.HT
