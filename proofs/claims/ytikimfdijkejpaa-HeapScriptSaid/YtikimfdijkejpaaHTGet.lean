/- The heap at one type of things: New, Len, Top, Get. -/
import Derived.Test.YtikimfdijkejpaaHTAhead
namespace Go.Proofs.Ytikimfdijkejpaa.HT
open Go.RowKit Go.Sb

set_option maxHeartbeats 1000000 in
theorem new_any (fid : Nat) (caps : Array Value) (w : World) :
    Calls Try.prog 22 #[.func (.func fid) #[] caps] w fun e w' => ∃ bh bm, e = .returned (.pointer (some ⟨bh, 0, none⟩)) ∧ HRep 99 101 3 (fun k => w.heap.size ≤ k) w' bh (.func (.func fid) #[] caps) 0 (([] : List (Int × (Int × Int))).map en) (.slice none 0 0) bm [] ∧ Fr (fun _ => False) w w' := by
  have hmm := @run_makeMap Try.prog
  have hef := fun (w : World) => run_eql_func_nil Try.underlying53 w (.func fid) #[] caps
  go_enter Try.func22, Try.ntmps22
  go_wp2_with (fail)
  go_ret
  have hf : Fr (fun _ => False) w ((w.alloc (.map #[] 0)).alloc (.cells #[.func (.func fid) #[] caps, .slice none 0 0, .map (some w.heap.size), .int .i64 0] 99)) := ((Fr.refl _ _).alloc _).alloc _
  refine ⟨w.heap.size + 1, w.heap.size, rfl, ⟨?_, Own.nil _ _ _ _, (HasMap.made w).alloc _, Places.nil, Nat.le_succ _, Nat.le_refl _, by simp, by simp⟩, hf⟩
  have := heap_alloc_eq (w.alloc (.map #[] 0)) (.cells #[.func (.func fid) #[] caps, .slice none 0 0, .map (some w.heap.size), .int .i64 0] 99)
  rwa [World.size_alloc] at this

set_option maxHeartbeats 1000000 in
theorem len_any {F : Nat → Prop} {bh bm : Nat} {fv lv : Value} {g : Int} {L : List (Int × (Int × Int))} {m : List (Int × Value)} {w : World} (h : HRep 99 101 3 F w bh fv g (L.map en) lv bm m) :
    Calls Try.prog 25 #[.pointer (some ⟨bh, 0, none⟩)] w fun e w' => e = .returned (.int .i64 (L.length : Int)) ∧ w = w' := by
  obtain ⟨ad, cap, rfl⟩ : ∃ ad cap, lv = .slice ad L.length cap := by
    rcases h.list.shape with ⟨rfl, hl, _⟩ | ⟨gg, cap, he, _⟩
    · simp at hl
      subst hl
      exact ⟨none, 0, rfl⟩
    · exact ⟨_, cap, by simpa using he⟩
  have c1 : w.cell? ⟨bh, 1, none⟩ = some (.slice ad L.length cap) := cell_is h.head 1 rfl
  clear h
  go_enter Try.func25, Try.ntmps25
  go_wp2_with (fail)
  go_ret
  exact ⟨rfl, rfl⟩

set_option maxRecDepth 100000 in
set_option maxHeartbeats 1000000 in
theorem top_none {F : Nat → Prop} {bh bm : Nat} {fv lv : Value} {g : Int} {m : List (Int × Value)} {w : World} (h : HRep 99 101 3 F w bh fv g (([] : List (Int × (Int × Int))).map en) lv bm m) :
    Calls Try.prog 41 #[.pointer (some ⟨bh, 0, none⟩)] w fun e w' => e = .returned (.tuple #[.int .i64 0, thV (0, 0), .bool false]) ∧ Fr (fun _ => False) w w' := by
  obtain ⟨ad, cap, rfl⟩ : ∃ ad cap, lv = .slice ad 0 cap := by
    rcases h.list.shape with ⟨rfl, hl, _⟩ | ⟨gg, cap, he, _⟩
    · exact ⟨none, 0, rfl⟩
    · exact ⟨_, cap, by simpa using he⟩
  have c1 : w.cell? ⟨bh, 1, none⟩ = some (.slice ad 0 cap) := cell_is h.head 1 rfl
  have HH := Lib.hid h.head
  have hlt := lt_of_heap h.head
  clear h
  go_enter Try.func41, Try.ntmps41
  go_wp2_with (fail)
  go_region
  go_wp2_with (fail)
  refine bodyPost_ret (v := .tuple #[.int .i64 0, .agg #[.int .i64 0, .int .i64 0], .bool false]) (by simp [results, Try.results41, go_sem]) rfl ⟨rfl, ?_⟩
  exact (((Fr.refl _ _).alloc _).alloc _).drew

set_option maxRecDepth 100000 in
set_option maxHeartbeats 1000000 in
theorem top_some {F : Nat → Prop} {bh bm : Nat} {fv lv : Value} {g : Int} {L : List (Int × (Int × Int))} {m : List (Int × Value)} {w : World} {a : Int × (Int × Int)} (h : HRep 99 101 3 F w bh fv g (L.map en) lv bm m) (hi : L[0]? = some a) :
    Calls Try.prog 41 #[.pointer (some ⟨bh, 0, none⟩)] w fun e w' => e = .returned (.tuple #[.int .i64 a.1, thV a.2, .bool true]) ∧ Fr (fun _ => False) w w' := by
  have hil := (List.getElem?_eq_some_iff.1 hi).1
  obtain ⟨gg, cap, rfl, hcap, hcm⟩ := h.some hil
  have hown : Own 101 3 F w (.slice (some ⟨gg, 0, none⟩) L.length cap) L.length (allc (L.map en)) := by simpa using h.list
  have c1 : w.cell? ⟨bh, 1, none⟩ = some (.slice (some ⟨gg, 0, none⟩) L.length cap) := cell_is h.head 1 rfl
  obtain ⟨i0, i1, i2⟩ := en_cells hown hi
  have hlt := lt_of_heap h.head
  have hgl := World.block_lt_of_cell? w _ i0
  have hne : ((L.length : Int) == 0) = false := by simp only [beq_eq_false_iff_ne, ne_eq]; omega
  obtain ⟨ta, ra, ma⟩ := a
  simp only [Nat.zero_mul, Nat.zero_add] at i0 i1 i2
  clear h hown hi
  go_enter Try.func41, Try.ntmps41
  go_wp2_with (fail)
  go_region
  go_wp2_with (fail)
  refine bodyPost_ret (v := .tuple #[.int .i64 ta, .agg #[.int .i64 ra, .int .i64 ma], .bool true]) (by simp [results, Try.results41, go_sem]) rfl ⟨rfl, ?_⟩
  exact (((Fr.refl _ _).alloc _)).drew

set_option maxRecDepth 100000 in
set_option maxHeartbeats 1000000 in
theorem get_none {F : Nat → Prop} {bh bm : Nat} {fv lv : Value} {g : Int} {L : List (Int × (Int × Int))} {m : List (Int × Value)} {w : World} {t : Int} (h : HRep 99 101 3 F w bh fv g (L.map en) lv bm m) (ht : ∀ p ∈ L, p.1 ≠ t) :
    Calls Try.prog 37 #[.pointer (some ⟨bh, 0, none⟩), .int .i64 t] w fun e w' => e = .returned (.tuple #[.agg #[.int .i64 0, .int .i64 0], .bool false]) ∧ Fr (fun _ => False) w w' := by
  have hn : t ∉ m.map Prod.fst := h.ok.none (fun e he => by
    obtain ⟨p, hp, rfl⟩ := List.mem_map.1 he
    exact ht p hp)
  have hz : ∀ w : World, (zeroValue 3).run Try.prog w = .ok (.int .i64 0) w := fun w => by kernel_rfl
  have c2 : w.cell? ⟨bh, 2, none⟩ = some (.map (some bm)) := cell_is h.head 2 rfl
  have hlt := lt_of_heap h.head
  have HM := Lib.hid h.map
  have HN := Lib.hid hn
  have HZ := Lib.hid hz
  clear h hn hz
  go_enter Try.func37, Try.ntmps37
  go_wp2_with (at_lookup; refine wpList_lookup_none _ rfl _ _ 82 true rfl 3 3 Try.underlying82 Try.underlying3 (HZ.out _) bm m t rfl rfl (HM.out.alloc _) HN.out ?_)
  refine bodyPost_ret (v := .tuple #[.agg #[.int .i64 0, .int .i64 0], .bool false]) (by simp [results, Try.results37, go_sem]) rfl ⟨rfl, ?_⟩
  exact ((Fr.refl _ _).alloc _).alloc _

set_option maxRecDepth 100000 in
set_option maxHeartbeats 1000000 in
theorem get_some {F : Nat → Prop} {bh bm : Nat} {fv lv : Value} {g : Int} {L : List (Int × (Int × Int))} {m : List (Int × Value)} {w : World} {i : Nat} {a : Int × (Int × Int)} (h : HRep 99 101 3 F w bh fv g (L.map en) lv bm m) (hi : L[i]? = some a) :
    Calls Try.prog 37 #[.pointer (some ⟨bh, 0, none⟩), .int .i64 a.1] w fun e w' => e = .returned (.tuple #[thV a.2, .bool true]) ∧ Fr (fun _ => False) w w' := by
  have hil := (List.getElem?_eq_some_iff.1 hi).1
  obtain ⟨gg, cap, rfl, hcap, hcm⟩ := h.some hil
  have hown : Own 101 3 F w (.slice (some ⟨gg, 0, none⟩) L.length cap) L.length (allc (L.map en)) := by simpa using h.list
  have c1 : w.cell? ⟨bh, 1, none⟩ = some (.slice (some ⟨gg, 0, none⟩) L.length cap) := cell_is h.head 1 rfl
  have c2 : w.cell? ⟨bh, 2, none⟩ = some (.map (some bm)) := cell_is h.head 2 rfl
  obtain ⟨i0, i1, i2⟩ := en_cells hown hi
  have hlt := lt_of_heap h.head
  have hgl := World.block_lt_of_cell? w _ i0
  have hm : (a.1, Value.int .i64 (i : Int)) ∈ m := h.ok.hit i (en a) (by rw [List.getElem?_map, hi]; rfl)
  obtain ⟨m1, m2, hms, has, _⟩ := split_at h.ok.keys hm
  have HM := Lib.hid (hms ▸ h.map)
  have HA := Lib.hid has
  clear h hown hi hm hms has
  obtain ⟨ta, ra, ma⟩ := a
  dsimp only at i0 i1 i2
  go_enter Try.func37, Try.ntmps37
  go_wp2_with (at_lookup; refine wpList_lookup_some _ rfl _ _ 82 true rfl 3 3 Try.underlying82 Try.underlying3 bm m1 m2 ta (.int .i64 (i : Int)) rfl rfl (HM.out.alloc _) HA.out ?_)
  refine bodyPost_ret (v := .tuple #[.agg #[.int .i64 ra, .int .i64 ma], .bool true]) (by simp [results, Try.results37, go_sem]) rfl ⟨rfl, ?_⟩
  exact (Fr.refl _ _).alloc _

end Go.Proofs.Ytikimfdijkejpaa.HT
