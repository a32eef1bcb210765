/- The document's queue: At, Leave. -/
import Derived.Test.YtolonoabipnpfaaQRef
namespace Go.Proofs.Ytolonoabipnpfaa
open Go.RowKit Go.Sb

def AtRel (L : List (Int × Int)) (t : Int) (i : Value) : Prop := ∃ k : Nat, i = .int .i64 (k : Int) ∧ k ≤ L.length ∧ ∀ p ∈ L.take k, p.1 ≠ t

set_option maxRecDepth 100000 in
set_option maxHeartbeats 1000000 in
theorem rat_none (F : Nat → Prop) (br : Nat) (tv sv : Value) (g t : Int) (L : List (Int × Int)) (w : World) (h : RRep F w br tv sv g L) (hL : L.length ≤ 4398046511104) (ht : ∀ p ∈ L, p.1 ≠ t) :
    Calls Try.prog 35 #[.pointer (some ⟨br, 0, none⟩), .int .i64 t] w fun e w' => e = .returned (.int .i64 (-1)) ∧ w = w' := by
  have c0 : w.cell? ⟨br, 0, none⟩ = some tv := cell_is h.head 0 rfl
  have HT := Lib.hid ht
  have HLL := Lib.hid hL
  rcases h.ts.shape with ⟨rfl, hl0, _⟩ | ⟨gb, cap, rfl, _, _, hob⟩
  · clear h ht
    go_enter Try.func35, Try.ntmps35
    go_wp2_with (fail)
    refine wp_loop_rounds 1 ?_
    rw [rounds_succ]
    go_wp2_with (fail)
    go_ret
    exact ⟨rfl, rfl⟩
  · have H := Lib.hid h
    clear h ht
    go_enter Try.func35, Try.ntmps35
    go_wp2_with (fail)
    go_loop [5] (fun i => AtRel L t i) (fun i => L.length - (intOf i).toNat)
    case atStart => exact ⟨0, rfl, by omega, by simp⟩
    case round =>
      obtain ⟨k, rfl, hk, _⟩ := hrel
      by_cases hlt : k < L.length
      · have hx : L[k]? = some (L[k]'hlt) := List.getElem?_eq_getElem hlt
        have hc : w.cell? ⟨gb, k, none⟩ = some (.int .i64 (L[k]'hlt).1) := H.out.ts.cell rfl (by rw [List.getElem?_map, hx]; rfl)
        have hne := HT.out _ (List.getElem_mem hlt)
        have hne2 : ((L[k]'hlt).1 == t) = false := by simpa using hne
        clear hx
        generalize (L[k]'hlt).1 = y at *
        go_wp2_with (fail)
        go_round
        case rel => exact ⟨k + 1, by simp, hlt, fun p hp => HT.out p (List.mem_of_mem_take hp)⟩
        case measure => simp [intOf]; omega
      · have hkn : k = L.length := by omega
        subst hkn
        go_wp2_with (fail)
        go_ret
        exact ⟨rfl, rfl⟩

set_option maxRecDepth 100000 in
set_option maxHeartbeats 1000000 in
theorem rat_some (F : Nat → Prop) (br : Nat) (tv sv : Value) (g t x : Int) (L us vs : List (Int × Int)) (w : World) (h : RRep F w br tv sv g L) (hL : L.length ≤ 4398046511104) (hl : L = us ++ (t, x) :: vs) (ht : ∀ p ∈ us, p.1 ≠ t) :
    Calls Try.prog 35 #[.pointer (some ⟨br, 0, none⟩), .int .i64 t] w fun e w' => e = .returned (.int .i64 (us.length : Int)) ∧ w = w' := by
  have c0 : w.cell? ⟨br, 0, none⟩ = some tv := cell_is h.head 0 rfl
  have HT := Lib.hid ht
  have HLL := Lib.hid hL
  have hul : us.length < L.length := by rw [hl]; simp
  rcases h.ts.shape with ⟨rfl, hl0, _⟩ | ⟨gb, cap, rfl, _, _, hob⟩
  · omega
  · have H := Lib.hid h
    have HE := Lib.hid hl
    clear h ht hl
    go_enter Try.func35, Try.ntmps35
    go_wp2_with (fail)
    go_loop [5] (fun i => ∃ k : Nat, i = .int .i64 (k : Int) ∧ k ≤ us.length) (fun i => L.length - (intOf i).toNat)
    case atStart => exact ⟨0, rfl, by omega⟩
    case round =>
      obtain ⟨k, rfl, hk⟩ := hrel
      have hlt : k < L.length := by omega
      by_cases hku : k < us.length
      · have hx : L[k]? = some (us[k]'hku) := by rw [HE.out, List.getElem?_append_left hku, List.getElem?_eq_getElem hku]
        have hc : w.cell? ⟨gb, k, none⟩ = some (.int .i64 (us[k]'hku).1) := H.out.ts.cell rfl (by rw [List.getElem?_map, hx]; rfl)
        have hne := HT.out _ (List.getElem_mem hku)
        have hne2 : ((us[k]'hku).1 == t) = false := by simpa using hne
        clear hx
        generalize (us[k]'hku).1 = y at *
        go_wp2_with (fail)
        go_round
        case rel => exact ⟨k + 1, by simp, by omega⟩
        case measure => simp [intOf]; omega
      · have hkn : k = us.length := by omega
        subst hkn
        have hx : L[us.length]? = some (t, x) := by rw [HE.out, List.getElem?_append_right (Nat.le_refl _)]; simp
        have hc : w.cell? ⟨gb, us.length, none⟩ = some (.int .i64 t) := H.out.ts.cell rfl (by rw [List.getElem?_map, hx]; rfl)
        clear hx
        go_wp2_with (fail)
        go_ret
        exact ⟨rfl, rfl⟩

theorem erase_keep {α : Type} {L : List α} {k p : Nat} {x : α} (hx : L[k]? = some x) (hne : k ≠ p) : (L.take (k + 1)).eraseIdx p = (L.take k).eraseIdx p ++ [x] := by
  have hk := (List.getElem?_eq_some_iff.1 hx).1
  have hl : (L.take k).length = k := by rw [List.length_take]; omega
  rw [List.take_add_one, hx]
  simp only [Option.toList_some]
  rcases Nat.lt_or_ge p k with h | h
  · rw [List.eraseIdx_append_of_lt_length (by omega)]
  · rw [List.eraseIdx_append_of_length_le (by omega), List.eraseIdx_of_length_le (l := L.take k) (by omega), List.eraseIdx_of_length_le (l := [x]) (by simp; omega)]

theorem erase_skip {α : Type} {L : List α} {p : Nat} {x : α} (hx : L[p]? = some x) : (L.take (p + 1)).eraseIdx p = (L.take p).eraseIdx p := by
  have hk := (List.getElem?_eq_some_iff.1 hx).1
  have hl : (L.take p).length = p := by rw [List.length_take]; omega
  rw [List.take_add_one, hx]
  simp only [Option.toList_some]
  rw [List.eraseIdx_append_of_length_le (by omega), List.eraseIdx_of_length_le (l := L.take p) (by omega), hl]
  simp

/-- One of two rows of the call's own grew by one. -/
theorem two_grown {R T : TypeId} {F : Nat → Prop} {w w3 : World} {v u v3 b : Value} {n m : Nat} {xs ys : List Value} (_hv : Own R 1 F w v n xs) (hu : Own R 1 F w u m ys) (hap : Apart v u) (hF : ∀ k, w.heap.size ≤ k → F k)
    (hv3 : Own R 1 (ex F (w.alloc (.cells #[b] T))) w3 v3 (n + 1) (xs ++ [b])) (hf3 : Fr (fun k => v.ownBlock = some k) (w.alloc (.cells #[b] T)) w3)
    (hd3 : v3.ownBlock = v.ownBlock ∨ (Fr (fun _ => False) (w.alloc (.cells #[b] T)) w3 ∧ v3.ownBlock = some (w.alloc (.cells #[b] T)).heap.size)) :
    Own R 1 F w3 v3 (n + 1) (xs ++ [b]) ∧ Own R 1 F w3 u m ys ∧ Apart v3 u ∧ Fr (fun k => v.ownBlock = some k) w w3 := by
  have hA : Fr (fun k => v.ownBlock = some k) w w3 := ((Fr.refl _ w).alloc _).trans hf3 (fun k hk h => h)
  refine ⟨hv3.mono (fun k _ hk => hk.elim id (fun hk => hF k (by simp at hk; omega))), hu.of (fun k hk hb => hA.block k hk (fun hv' => hap k hv' hb)), ?_, hA⟩
  intro k hk hk'
  rcases hd3 with hd | ⟨_, hd⟩
  · rw [hd] at hk
    exact hap k hk hk'
  · have := (hu.block k hk').2
    rw [hd, Option.some.injEq] at hk
    simp at hk
    omega

/-- Two rows of the call's own, the copies without number p. -/
def OutRel (w : World) (L : List (Int × Int)) (p : Nat) (a b i : Value) (wr : World) : Prop :=
  ∃ k : Nat, i = .int .i64 (k : Int) ∧ k ≤ L.length ∧ Own 3 1 (fun j => w.heap.size ≤ j) wr a ((L.take k).eraseIdx p).length (((L.take k).eraseIdx p).map t1) ∧
    Own 3 1 (fun j => w.heap.size ≤ j) wr b ((L.take k).eraseIdx p).length (((L.take k).eraseIdx p).map t2) ∧ Apart a b ∧ Fr (fun _ => False) w wr ∧ a.ownBlock.isSome = true ∧ b.ownBlock.isSome = true

set_option maxRecDepth 100000 in
set_option maxHeartbeats 1000000 in
theorem rleave_none (F : Nat → Prop) (br : Nat) (tv sv : Value) (g t : Int) (L : List (Int × Int)) (w : World) (h : RRep F w br tv sv g L) (hL : L.length ≤ 4398046511104) (ht : ∀ p ∈ L, p.1 ≠ t) :
    Calls Try.prog 13 #[.pointer (some ⟨br, 0, none⟩), .int .i64 t] w fun e w' => e = .returned (.tuple #[.int .i64 0, .bool false]) ∧ w = w' := by
  go_enter Try.func13, Try.ntmps13
  go_wp2_with (fail)
  refine (rat_none F br tv sv g t L w h hL ht).mono ?_
  rintro e w' ⟨rfl, rfl⟩
  clear h ht
  go_wp2_with (fail)
  go_ret2
  exact ⟨rfl, rfl⟩

set_option maxRecDepth 100000 in
set_option maxHeartbeats 1000000 in
theorem rleave_some (F : Nat → Prop) (br : Nat) (tv sv : Value) (g t x : Int) (L us vs : List (Int × Int)) (w : World) (h : RRep F w br tv sv g L) (hL : L.length ≤ 4398046511104) (hl : L = us ++ (t, x) :: vs) (ht : ∀ p ∈ us, p.1 ≠ t) :
    Calls Try.prog 13 #[.pointer (some ⟨br, 0, none⟩), .int .i64 t] w fun e w' => e = .returned (.tuple #[.int .i64 x, .bool true]) ∧
      (∃ tv' sv', RRep (ex F w) w' br tv' sv' g (us ++ vs)) ∧ Fr F w w' := by
  have hul : us.length < L.length := by rw [hl]; simp
  have hxs : L[us.length]? = some (t, x) := by rw [hl, List.getElem?_append_right (Nat.le_refl _)]; simp
  have c0 : w.cell? ⟨br, 0, none⟩ = some tv := cell_is h.head 0 rfl
  have c1 : w.cell? ⟨br, 1, none⟩ = some sv := cell_is h.head 1 rfl
  obtain ⟨gt, ct, rfl, _, _⟩ := h.ts.some (by omega)
  obtain ⟨gs, cs, rfl, _, _⟩ := h.xs.some (by omega)
  have d1 : w.cell? ⟨gs, us.length, none⟩ = some (.int .i64 x) := h.xs.cell rfl (by rw [List.getElem?_map, hxs]; rfl)
  have H := Lib.hid h
  have HE := Lib.hid hl
  have HT := Lib.hid ht
  have HX := Lib.hid hxs
  have hbr := lt_of_heap h.head
  clear h hl ht hxs
  go_enter Try.func13, Try.ntmps13
  go_wp2_with (fail)
  refine (rat_some F br _ _ g t x L us vs w H.out hL HE.out HT.out).mono ?_
  rintro e w' ⟨rfl, rfl⟩
  go_wp2_with (fail)
  go_loopw [8, 9, 10] (fun a b i wr => OutRel w L us.length a b i wr) (fun _ _ i _ => L.length - (intOf i).toNat)
  case atStart =>
    refine ⟨0, rfl, Nat.zero_le _, ?_, ?_, ?_, ((Fr.refl _ _).alloc _).alloc _, rfl, rfl⟩
    · simpa using (Own.empty 3 1 (fun j => w.heap.size ≤ j) w (Nat.le_refl _)).alloc _
    · simpa using Own.empty 3 1 (fun j => w.heap.size ≤ j) (w.alloc (.cells #[] 3)) (by simp)
    · intro k h1 h2
      simp [Value.ownBlock] at h1 h2
      omega
  case round =>
    obtain ⟨k, rfl, hk, ha, hb, hap, hf, hia, hib⟩ := hrel
    have HA := Lib.hid ha
    have HB := Lib.hid hb
    have HAP := Lib.hid hap
    have HF := Lib.hid hf
    have H2 : Hid (RRep F wr br (.slice (some ⟨gt, 0, none⟩) L.length ct) (.slice (some ⟨gs, 0, none⟩) L.length cs) g L) := Lib.hid (H.out.fr hf (fun _ _ _ h => h))
    have HI := Lib.hid (And.intro hia hib)
    clear ha hb hap hf hia hib
    have e0 : wr.cell? ⟨br, 0, none⟩ = some (.slice (some ⟨gt, 0, none⟩) L.length ct) := cell_is H2.out.head 0 rfl
    have e1 : wr.cell? ⟨br, 1, none⟩ = some (.slice (some ⟨gs, 0, none⟩) L.length cs) := cell_is H2.out.head 1 rfl
    have hlen : ((L.take k).eraseIdx us.length).length ≤ 4398046511104 := by
      have := List.length_eraseIdx_le (L.take k) us.length
      simp at this
      omega
    by_cases hlt : k < L.length
    · have hx : L[k]? = some (L[k]'hlt) := List.getElem?_eq_getElem hlt
      by_cases hku : k = us.length
      · subst hku
        have HXK := Lib.hid hx
        clear hx
        go_wp2_with (fail)
        go_roundw
        case rel => exact ⟨us.length + 1, by simp, hlt, by rw [erase_skip HXK.out]; exact HA.out, by rw [erase_skip HXK.out]; exact HB.out, HAP.out, HF.out, HI.out.1, HI.out.2⟩
        case measure => simp [intOf]; omega
      · have d0 : wr.cell? ⟨gt, k, none⟩ = some (.int .i64 (L[k]'hlt).1) := H2.out.ts.cell rfl (by rw [List.getElem?_map, hx]; rfl)
        have d1 : wr.cell? ⟨gs, k, none⟩ = some (.int .i64 (L[k]'hlt).2) := H2.out.xs.cell rfl (by rw [List.getElem?_map, hx]; rfl)
        have hkn : ((k : Int) == (us.length : Int)) = false := by simp; omega
        have HXK := Lib.hid hx
        clear hx
        generalize L[k]'hlt = p at *
        obtain ⟨p1, p2⟩ := p
        have hgsl : gs < wr.heap.size := World.block_lt_of_cell? wr _ d1
        have hbl : br < wr.heap.size := World.block_lt_of_cell? wr _ e0
        go_wp2_with (first
          | (at_builtin; refine wpList_append_Own _ rfl _ _ 27 rfl 3 (.int .i64 0) 1 8 Try.underlying27 Try.info3 rfl (by decide) u8 _ _ rfl (HA.out.alloc _) (.slice (some ⟨wr.heap.size, 0, none⟩) 1 1) 1 [.int .i64 p1] rfl (src_val wr (.int .i64 p1) 3 rfl) (by unfold maxLen; omega) (by omega) ?_; intro v3 w3 hv3 hf3 hn3 hd3; have HX := Lib.hid (two_grown HA.out HB.out HAP.out (fun k hk => Nat.le_trans HF.out.size hk) hv3 hf3 hd3); have H3 : Hid (RRep F w3 br (.slice (some ⟨gt, 0, none⟩) L.length ct) (.slice (some ⟨gs, 0, none⟩) L.length cs) g L) := Lib.hid (H.out.fr (HF.out.trans HX.out.2.2.2 (fun k hk hb => absurd (HA.out.block k hb).1 (by omega))) (fun _ _ _ h => h)); have e4 : w3.cell? ⟨br, 1, none⟩ = some (.slice (some ⟨gs, 0, none⟩) L.length cs) := cell_is H3.out.head 1 rfl; have e5 : w3.cell? ⟨gs, k, none⟩ = some (.int .i64 p2) := H3.out.xs.cell rfl (by rw [List.getElem?_map, HXK.out]; rfl); clear hv3 hf3 hn3 hd3)
          | (at_builtin; refine wpList_append_Own _ rfl _ _ 27 rfl 3 (.int .i64 0) 1 8 Try.underlying27 Try.info3 rfl (by decide) u9 _ _ rfl (HX.out.2.1.alloc _) (.slice (some ⟨w3.heap.size, 0, none⟩) 1 1) 1 [.int .i64 p2] rfl (src_val w3 (.int .i64 p2) 3 rfl) (by unfold maxLen; omega) (by omega) ?_; intro v5 w5 hv5 hf5 hn5 hd5; have HY := Lib.hid (two_grown HX.out.2.1 HX.out.1 HX.out.2.2.1.symm (fun k hk => Nat.le_trans HF.out.size (Nat.le_trans HX.out.2.2.2.size hk)) hv5 hf5 hd5); have HN5 := Lib.hid hn5; clear hv5 hf5 hn5 hd5))
        go_roundw
        case rel => 
          refine ⟨k + 1, by simp, hlt, ?_, ?_, HY.out.2.2.1.symm, ?_, ?_, ?_⟩
          · rw [erase_keep HXK.out hku, List.length_append, List.map_append]
            exact HY.out.2.1
          · rw [erase_keep HXK.out hku, List.length_append, List.map_append]
            exact HY.out.1
          · exact (HF.out.trans HX.out.2.2.2 (fun k hk hb => absurd (HA.out.block k hb).1 (by omega))).trans HY.out.2.2.2 (fun k hk hb => absurd (HX.out.2.1.block k hb).1 (by omega))
          · obtain ⟨g3, k3, rfl, _, _⟩ := HX.out.1.some (by omega)
            rfl
          · obtain ⟨g3, k3, rfl, _, _⟩ := HY.out.1.some (by omega)
            rfl
        case measure => simp [intOf]; omega
    · have hkn : k = L.length := by omega
      subst hkn
      have hE : L.eraseIdx us.length = us ++ vs := by
        rw [HE.out, List.eraseIdx_append_of_length_le (Nat.le_refl _)]
        simp
      have ha := HA.out
      have hb := HB.out
      rw [List.take_length, hE] at ha hb
      have HE2 := Lib.hid (And.intro ha hb)
      have hsh : ∀ {n : Nat} {v : Value} {xs : List Value}, Own 3 1 (fun j => w.heap.size ≤ j) wr v n xs → ∃ ad c, v = .slice ad n c := fun h => by
        rcases h.shape with ⟨rfl, rfl, _⟩ | ⟨g, cap, rfl, _⟩
        · exact ⟨_, _, rfl⟩
        · exact ⟨_, _, rfl⟩
      obtain ⟨ad8, c8, rfl⟩ := hsh ha
      obtain ⟨ad9, c9, rfl⟩ := hsh hb
      clear hsh ha hb HA HB hE
      have f0 := frozen_of H2.out.head 0
      have f1 := frozen_of H2.out.head 1
      have hbl := lt_of_heap H2.out.head
      go_wp2_with (fail)
      go_ret2
      obtain ⟨ha, hb⟩ := HE2.out
      have hF : Fr F w wr := HF.out.mono (fun _ _ h => h.elim)
      have hne : ∀ k, w.heap.size ≤ k → k ≠ br := fun k hk e => by omega
      refine ⟨rfl, ⟨.slice ad8 _ c8, .slice ad9 _ c9, ?_, ?_, ?_, HAP.out, .inl H2.out.fb⟩, (hF.setCell (.inl H2.out.fb) _).setCell (.inl H2.out.fb) _⟩
      · have h1 := heap_setCell_eq 0 (.slice ad8 (us ++ vs).length c8) H2.out.head
        have h2 := heap_setCell_eq 1 (.slice ad9 (us ++ vs).length c9) h1
        simpa using h2
      · refine (ha.of (fun k _ hk => ?_)).mono (fun _ _ h => .inr h)
        rw [heap_setCell_ne _ _ _ _ (hne k (ha.block k hk).1), heap_setCell_ne _ _ _ _ (hne k (ha.block k hk).1)]
      · refine (hb.of (fun k _ hk => ?_)).mono (fun _ _ h => .inr h)
        rw [heap_setCell_ne _ _ _ _ (hne k (hb.block k hk).1), heap_setCell_ne _ _ _ _ (hne k (hb.block k hk).1)]

end Go.Proofs.Ytolonoabipnpfaa
