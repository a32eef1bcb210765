/- The document's heap: top. -/
import Derived.Test.YtikimfdijkejpaaHpRef3
namespace Go.Proofs.Ytikimfdijkejpaa.HT
open Go.RowKit Go.Sb

/-- The best so far. -/
def Best (key : Int × Int → Int) (M : List (Int × (Int × Int))) (k : Nat) (b : Value) : Prop :=
  (k = 0 ∧ b = .int .i64 (-1)) ∨ ∃ (j : Nat) (a : Int × (Int × Int)), b = .int .i64 (j : Int) ∧ j < k ∧ M[j]? = some a ∧ ∀ c ∈ M.take k, hle key a c

def TopRel (key : Int × Int → Int) (M : List (Int × (Int × Int))) (w : World) (b i : Value) (wr : World) : Prop :=
  ∃ k : Nat, i = .int .i64 (k : Int) ∧ k ≤ M.length ∧ Best key M k b ∧ Fr (fun _ => False) w wr

theorem take_one {α : Type} {xs : List α} {k : Nat} {x : α} (h : xs[k]? = some x) : xs.take (k + 1) = xs.take k ++ [x] := by
  rw [List.take_add_one, h]
  rfl

theorem best_new {key : Int × Int → Int} {M : List (Int × (Int × Int))} {k : Nat} {b : Int × (Int × Int)} (hb : M[k]? = some b) (h : ∀ c ∈ M.take k, hle key b c) : Best key M (k + 1) (.int .i64 (k : Int)) :=
  .inr ⟨k, b, rfl, by omega, hb, fun c hc => by
    rw [take_one hb] at hc
    rcases List.mem_append.1 hc with hc | hc
    · exact h c hc
    · rw [List.mem_singleton] at hc
      subst hc
      exact hle.refl _⟩

theorem best_old {key : Int × Int → Int} {M : List (Int × (Int × Int))} {k j : Nat} {a b : Int × (Int × Int)} (hj : j < k) (ha : M[j]? = some a) (hb : M[k]? = some b) (h : ∀ c ∈ M.take k, hle key a c) (hn : bk key b.2 a.2 = false) (hasc : M.Pairwise (fun a b => a.1 < b.1)) : Best key M (k + 1) (.int .i64 (j : Int)) :=
  .inr ⟨j, a, rfl, by omega, ha, fun c hc => by
    rw [take_one hb] at hc
    rcases List.mem_append.1 hc with hc | hc
    · exact h c hc
    · rw [List.mem_singleton] at hc
      subst hc
      have hlt : a.1 < c.1 := by
        have hjl := (List.getElem?_eq_some_iff.1 ha)
        have hkl := (List.getElem?_eq_some_iff.1 hb)
        have := List.pairwise_iff_getElem.1 hasc j k hjl.1 hkl.1 hj
        rw [hjl.2, hkl.2] at this
        exact this
      have hk : ¬ key c.2 < key a.2 := by
        unfold bk at hn
        simpa using hn
      unfold hle
      omega⟩

set_option maxRecDepth 100000 in
set_option maxHeartbeats 2000000 in
theorem top_any {F : Nat → Prop} {br : Nat} {way last : Int} {rv : Value} {M : List (Int × (Int × Int))} {w : World} (hw : way = 0 ∨ way = 1 ∨ way = 2) (h : RRp F w br way last rv M) (hL : M.length ≤ 8796093022208) (hasc : M.Pairwise (fun a b => a.1 < b.1)) :
    Calls Try.prog 76 #[.pointer (some ⟨br, 0, none⟩)] w fun e w' => ∃ b, e = .returned b ∧ Best (wKey way) M M.length b ∧ Fr (fun _ => False) w w' := by
  obtain ⟨ad, cap, rfl, hcap⟩ := h.shape
  have c2 : w.cell? ⟨br, 2, none⟩ = some (.slice ad M.length cap) := cell_is h.head 2 rfl
  have HH := Lib.hid h
  have HW := Lib.hid hw
  have HA := Lib.hid hasc
  clear h hw hasc
  go_enter Try.func76, Try.ntmps76
  go_wp2_with (fail)
  go_loopw [3, 4, 10] (fun b _ i wr => TopRel (wKey way) M w b i wr) (fun _ _ i _ => M.length - (intOf i).toNat)
  case atStart => exact ⟨0, rfl, Nat.zero_le _, .inl ⟨rfl, rfl⟩, Fr.refl _ _⟩
  case round =>
    obtain ⟨k, rfl, hk, hbest, hf⟩ := hrel
    by_cases hlt : k < M.length
    · obtain ⟨gg, cap', he, _, hmax⟩ := HH.out.some (by omega)
      cases he
      unfold maxLen at hmax
      have HF := Lib.hid hf
      have hb := List.getElem?_eq_getElem hlt
      generalize M[k] = b at hb
      obtain ⟨j0, j1, j2⟩ := en_cellsE HH.out.ls hb
      obtain ⟨tb, rb, mb⟩ := b
      dsimp only at j0 j1 j2
      have HB := Lib.hid hb
      have HBEST := Lib.hid hbest
      clear hf hb
      rcases hbest with ⟨hk0, rfl⟩ | ⟨j, a, rfl, hjk, ha, hmin⟩
      · have HC0 := Lib.hid hk0
        clear hk0
        go_wp2_with (fail)
        refine wp_region_held_drew (S := fun w' => Fr (fun _ => False) w w') (by kernel_rfl) HF.out.drew (fun hS1 => ?_)
        refine wpAnyH_take (i := 0) (v := (.int .i64 (-1))) rfl (by kernel_rfl) (by kernel_rfl) (by kernel_rfl) (fun _ _ _ h => h) (Or.inl ⟨by rfl, fun w' hS => by go_simp⟩) hS1 ?_
        try simp only [Act.put, List.getElem_toArray, List.getElem_cons_zero, List.setIfInBounds_toArray, List.set_cons_zero, List.set_cons_succ]
        refine wpAnyH_take (i := 1) (v := (.bool true)) rfl (by kernel_rfl) (by kernel_rfl) (by kernel_rfl) (fun _ _ _ h => h) (Or.inl ⟨by rfl, fun w' hS => by go_simp⟩) hS1 ?_
        try simp only [Act.put, List.getElem_toArray, List.getElem_cons_zero, List.getElem_cons_succ, List.setIfInBounds_toArray, List.set_cons_zero, List.set_cons_succ]
        refine wpAnyH_take (i := 2) (v := (.bool true)) rfl (by kernel_rfl) (by kernel_rfl) (by kernel_rfl) (fun _ _ _ h => h) (Or.inl ⟨by rfl, fun w' hS => by go_simp⟩) hS1 ?_
        try simp only [Act.put, List.getElem_toArray, List.getElem_cons_zero, List.getElem_cons_succ, List.setIfInBounds_toArray, List.set_cons_zero, List.set_cons_succ]
        refine wpAnyH_take (i := 3) (v := undef) rfl (by kernel_rfl) (by kernel_rfl) (by kernel_rfl) (fun _ _ _ h => h) (Or.inr ⟨by rfl, rfl⟩) hS1 ?_
        try simp only [Act.put, List.getElem_toArray, List.getElem_cons_zero, List.getElem_cons_succ, List.setIfInBounds_toArray, List.set_cons_zero, List.set_cons_succ]
        refine wpAnyH_take (i := 4) (v := undef) rfl (by kernel_rfl) (by kernel_rfl) (by kernel_rfl) (fun _ _ _ h => h) (Or.inr ⟨by rfl, rfl⟩) hS1 ?_
        try simp only [Act.put, List.getElem_toArray, List.getElem_cons_zero, List.getElem_cons_succ, List.setIfInBounds_toArray, List.set_cons_zero, List.set_cons_succ]
        refine wpAnyH_take (i := 5) (v := undef) rfl (by kernel_rfl) (by kernel_rfl) (by kernel_rfl) (fun _ _ _ h => h) (Or.inr ⟨by rfl, rfl⟩) hS1 ?_
        try simp only [Act.put, List.getElem_toArray, List.getElem_cons_zero, List.getElem_cons_succ, List.setIfInBounds_toArray, List.set_cons_zero, List.set_cons_succ]
        refine wpAnyH_take (i := 6) (v := undef) rfl (by kernel_rfl) (by kernel_rfl) (by kernel_rfl) (fun _ _ _ h => h) (Or.inr ⟨by rfl, rfl⟩) hS1 ?_
        try simp only [Act.put, List.getElem_toArray, List.getElem_cons_zero, List.getElem_cons_succ, List.setIfInBounds_toArray, List.set_cons_zero, List.set_cons_succ]
        refine wpAnyH_take (i := 7) (v := undef) rfl (by kernel_rfl) (by kernel_rfl) (by kernel_rfl) (fun _ _ _ h => h) (Or.inr ⟨by rfl, rfl⟩) hS1 ?_
        try simp only [Act.put, List.getElem_toArray, List.getElem_cons_zero, List.getElem_cons_succ, List.setIfInBounds_toArray, List.set_cons_zero, List.set_cons_succ]
        refine wpAnyH_take (i := 8) (v := undef) rfl (by kernel_rfl) (by kernel_rfl) (by kernel_rfl) (fun _ _ _ h => h) (Or.inr ⟨by rfl, rfl⟩) hS1 ?_
        try simp only [Act.put, List.getElem_toArray, List.getElem_cons_zero, List.getElem_cons_succ, List.setIfInBounds_toArray, List.set_cons_zero, List.set_cons_succ]
        refine wpAnyH_take (i := 9) (v := undef) rfl (by kernel_rfl) (by kernel_rfl) (by kernel_rfl) (fun _ _ _ h => h) (Or.inr ⟨by rfl, rfl⟩) hS1 ?_
        try simp only [Act.put, List.getElem_toArray, List.getElem_cons_zero, List.getElem_cons_succ, List.setIfInBounds_toArray, List.set_cons_zero, List.set_cons_succ]
        refine wpAnyH_take (i := 10) (v := undef) rfl (by kernel_rfl) (by kernel_rfl) (by kernel_rfl) (fun _ _ _ h => h) (Or.inr ⟨by rfl, rfl⟩) hS1 ?_
        try simp only [Act.put, List.getElem_toArray, List.getElem_cons_zero, List.getElem_cons_succ, List.setIfInBounds_toArray, List.set_cons_zero, List.set_cons_succ]
        refine wpAnyH_take (i := 11) (v := undef) rfl (by kernel_rfl) (by kernel_rfl) (by kernel_rfl) (fun _ _ _ h => h) (Or.inr ⟨by rfl, rfl⟩) hS1 ?_
        try simp only [Act.put, List.getElem_toArray, List.getElem_cons_zero, List.getElem_cons_succ, List.setIfInBounds_toArray, List.set_cons_zero, List.set_cons_succ]
        refine wpAnyH_take (i := 12) (v := undef) rfl (by kernel_rfl) (by kernel_rfl) (by kernel_rfl) (fun _ _ _ h => h) (Or.inr ⟨by rfl, rfl⟩) hS1 ?_
        try simp only [Act.put, List.getElem_toArray, List.getElem_cons_zero, List.getElem_cons_succ, List.setIfInBounds_toArray, List.set_cons_zero, List.set_cons_succ]
        refine wpAnyH_take (i := 13) (v := undef) rfl (by kernel_rfl) (by kernel_rfl) (by kernel_rfl) (fun _ _ _ h => h) (Or.inr ⟨by rfl, rfl⟩) hS1 ?_
        try simp only [Act.put, List.getElem_toArray, List.getElem_cons_zero, List.getElem_cons_succ, List.setIfInBounds_toArray, List.set_cons_zero, List.set_cons_succ]
        refine wpAnyH_take (i := 14) (v := undef) rfl (by kernel_rfl) (by kernel_rfl) (by kernel_rfl) (fun _ _ _ h => h) (Or.inr ⟨by rfl, rfl⟩) hS1 ?_
        try simp only [Act.put, List.getElem_toArray, List.getElem_cons_zero, List.getElem_cons_succ, List.setIfInBounds_toArray, List.set_cons_zero, List.set_cons_succ]
        refine wpAnyH_take (i := 15) (v := undef) rfl (by kernel_rfl) (by kernel_rfl) (by kernel_rfl) (fun _ _ _ h => h) (Or.inr ⟨by rfl, rfl⟩) hS1 ?_
        try simp only [Act.put, List.getElem_toArray, List.getElem_cons_zero, List.getElem_cons_succ, List.setIfInBounds_toArray, List.set_cons_zero, List.set_cons_succ]
        refine wpAnyH_take (i := 16) (v := undef) rfl (by kernel_rfl) (by kernel_rfl) (by kernel_rfl) (fun _ _ _ h => h) (Or.inr ⟨by rfl, rfl⟩) hS1 ?_
        try simp only [Act.put, List.getElem_toArray, List.getElem_cons_zero, List.getElem_cons_succ, List.setIfInBounds_toArray, List.set_cons_zero, List.set_cons_succ]
        refine wpAnyH_take (i := 17) (v := undef) rfl (by kernel_rfl) (by kernel_rfl) (by kernel_rfl) (fun _ _ _ h => h) (Or.inr ⟨by rfl, rfl⟩) hS1 ?_
        try simp only [Act.put, List.getElem_toArray, List.getElem_cons_zero, List.getElem_cons_succ, List.setIfInBounds_toArray, List.set_cons_zero, List.set_cons_succ]
        refine wpAnyH_take (i := 18) (v := undef) rfl (by kernel_rfl) (by kernel_rfl) (by kernel_rfl) (fun _ _ _ h => h) (Or.inr ⟨by rfl, rfl⟩) hS1 ?_
        try simp only [Act.put, List.getElem_toArray, List.getElem_cons_zero, List.getElem_cons_succ, List.setIfInBounds_toArray, List.set_cons_zero, List.set_cons_succ]
        refine wpAnyH_take (i := 19) (v := undef) rfl (by kernel_rfl) (by kernel_rfl) (by kernel_rfl) (fun _ _ _ h => h) (Or.inr ⟨by rfl, rfl⟩) hS1 ?_
        try simp only [Act.put, List.getElem_toArray, List.getElem_cons_zero, List.getElem_cons_succ, List.setIfInBounds_toArray, List.set_cons_zero, List.set_cons_succ]
        refine wpAnyH_take (i := 20) (v := undef) rfl (by kernel_rfl) (by kernel_rfl) (by kernel_rfl) (fun _ _ _ h => h) (Or.inr ⟨by rfl, rfl⟩) hS1 ?_
        try simp only [Act.put, List.getElem_toArray, List.getElem_cons_zero, List.getElem_cons_succ, List.setIfInBounds_toArray, List.set_cons_zero, List.set_cons_succ]
        refine wpAnyH_take (i := 21) (v := undef) rfl (by kernel_rfl) (by kernel_rfl) (by kernel_rfl) (fun _ _ _ h => h) (Or.inr ⟨by rfl, rfl⟩) hS1 ?_
        try simp only [Act.put, List.getElem_toArray, List.getElem_cons_zero, List.getElem_cons_succ, List.setIfInBounds_toArray, List.set_cons_zero, List.set_cons_succ]
        refine wpAnyH_take (i := 22) (v := undef) rfl (by kernel_rfl) (by kernel_rfl) (by kernel_rfl) (fun _ _ _ h => h) (Or.inr ⟨by rfl, rfl⟩) hS1 ?_
        try simp only [Act.put, List.getElem_toArray, List.getElem_cons_zero, List.getElem_cons_succ, List.setIfInBounds_toArray, List.set_cons_zero, List.set_cons_succ]
        refine wpAnyH_take (i := 23) (v := undef) rfl (by kernel_rfl) (by kernel_rfl) (by kernel_rfl) (fun _ _ _ h => h) (Or.inr ⟨by rfl, rfl⟩) hS1 ?_
        try simp only [Act.put, List.getElem_toArray, List.getElem_cons_zero, List.getElem_cons_succ, List.setIfInBounds_toArray, List.set_cons_zero, List.set_cons_succ]
        refine wpAnyH_take (i := 24) (v := (.bool true)) rfl (by kernel_rfl) (by kernel_rfl) (by kernel_rfl) (fun _ _ _ h => h) (Or.inl ⟨by rfl, fun w' hS => by go_simp⟩) hS1 ?_
        try simp only [Act.put, List.getElem_toArray, List.getElem_cons_zero, List.getElem_cons_succ, List.setIfInBounds_toArray, List.set_cons_zero, List.set_cons_succ]
        refine wpAnyH_done (by kernel_rfl) ?_ _
        have HF2 := Lib.hid HF.out.drew
        go_wp2_with (fail)
        refine ⟨⟨k + 1, by simp, hlt, best_new HB.out (fun c hc => by rw [HC0.out] at hc; simp at hc), HF2.out⟩, ?_⟩
        simp [intOf]
        omega
      · obtain ⟨i0, i1, i2⟩ := en_cellsE HH.out.ls ha
        obtain ⟨ta, ra, ma⟩ := a
        dsimp only at i0 i1 i2
        have hjl := (List.getElem?_eq_some_iff.1 ha).1
        have c0 : w.cell? ⟨br, 0, none⟩ = some (.int .i64 way) := cell_is HH.out.head 0 rfl
        have HCC : Hid (∀ w', Fr (fun _ => False) w w' → w'.cell? ⟨br, 0, none⟩ = some (.int .i64 way) ∧ w'.cell? ⟨br, 2, none⟩ = some (.slice (some ⟨gg, 0, none⟩) M.length cap) ∧ w'.cell? ⟨gg, k * 3 + 1, none⟩ = some (.int .i64 rb) ∧ w'.cell? ⟨gg, k * 3 + 2, none⟩ = some (.int .i64 mb) ∧ w'.cell? ⟨gg, j * 3 + 1, none⟩ = some (.int .i64 ra) ∧ w'.cell? ⟨gg, j * 3 + 2, none⟩ = some (.int .i64 ma)) :=
          Lib.hid (fun w' hf => ⟨cell_fr hf c0 id, cell_fr hf c2 id, cell_fr hf j1 id, cell_fr hf j2 id, cell_fr hf i1 id, cell_fr hf i2 id⟩)
        have HA2 := Lib.hid ha
        have HMIN := Lib.hid hmin
        clear i0 i1 i2 j0 j1 j2 c0 ha hmin
        go_wp2_with (fail)
        refine wp_region_held_drew (S := fun w' => Fr (fun _ => False) w w') (by kernel_rfl) HF.out.drew (fun hS1 => ?_)
        refine wpAnyH_take (i := 0) (v := (.int .i64 (j : Int))) rfl (by kernel_rfl) (by kernel_rfl) (by kernel_rfl) (fun _ _ _ h => h) (Or.inl ⟨by rfl, fun w' hS => by obtain ⟨r0, r1, r2, r3, r4, r5⟩ := HCC.out w' hS; go_simp⟩) hS1 ?_
        try simp only [Act.put, List.getElem_toArray, List.getElem_cons_zero, List.setIfInBounds_toArray, List.set_cons_zero, List.set_cons_succ]
        refine wpAnyH_take (i := 1) (v := (.bool false)) rfl (by kernel_rfl) (by kernel_rfl) (by kernel_rfl) (fun _ _ _ h => h) (Or.inl ⟨by rfl, fun w' hS => by obtain ⟨r0, r1, r2, r3, r4, r5⟩ := HCC.out w' hS; go_simp⟩) hS1 ?_
        try simp only [Act.put, List.getElem_toArray, List.getElem_cons_zero, List.getElem_cons_succ, List.setIfInBounds_toArray, List.set_cons_zero, List.set_cons_succ]
        refine wpAnyH_take (i := 2) (v := (.bool false)) rfl (by kernel_rfl) (by kernel_rfl) (by kernel_rfl) (fun _ _ _ h => h) (Or.inl ⟨by rfl, fun w' hS => by obtain ⟨r0, r1, r2, r3, r4, r5⟩ := HCC.out w' hS; go_simp⟩) hS1 ?_
        try simp only [Act.put, List.getElem_toArray, List.getElem_cons_zero, List.getElem_cons_succ, List.setIfInBounds_toArray, List.set_cons_zero, List.set_cons_succ]
        refine wpAnyH_take (i := 3) (v := (.pointer (some ⟨br, 0, none⟩))) rfl (by kernel_rfl) (by kernel_rfl) (by kernel_rfl) (fun _ _ _ h => h) (Or.inl ⟨by rfl, fun w' hS => by obtain ⟨r0, r1, r2, r3, r4, r5⟩ := HCC.out w' hS; go_simp⟩) hS1 ?_
        try simp only [Act.put, List.getElem_toArray, List.getElem_cons_zero, List.getElem_cons_succ, List.setIfInBounds_toArray, List.set_cons_zero, List.set_cons_succ]
        refine wpAnyH_take (i := 4) (v := (.pointer (some ⟨br, 0, none⟩))) rfl (by kernel_rfl) (by kernel_rfl) (by kernel_rfl) (fun _ _ _ h => h) (Or.inl ⟨by rfl, fun w' hS => by obtain ⟨r0, r1, r2, r3, r4, r5⟩ := HCC.out w' hS; go_simp⟩) hS1 ?_
        try simp only [Act.put, List.getElem_toArray, List.getElem_cons_zero, List.getElem_cons_succ, List.setIfInBounds_toArray, List.set_cons_zero, List.set_cons_succ]
        refine wpAnyH_take (i := 5) (v := (.pointer (some ⟨br, 0, none⟩))) rfl (by kernel_rfl) (by kernel_rfl) (by kernel_rfl) (fun _ _ _ h => h) (Or.inl ⟨by rfl, fun w' hS => by obtain ⟨r0, r1, r2, r3, r4, r5⟩ := HCC.out w' hS; go_simp⟩) hS1 ?_
        try simp only [Act.put, List.getElem_toArray, List.getElem_cons_zero, List.getElem_cons_succ, List.setIfInBounds_toArray, List.set_cons_zero, List.set_cons_succ]
        refine wpAnyH_take (i := 6) (v := (.int .i64 way)) rfl (by kernel_rfl) (by kernel_rfl) (by kernel_rfl) (fun _ _ _ h => h) (Or.inl ⟨by rfl, fun w' hS => by obtain ⟨r0, r1, r2, r3, r4, r5⟩ := HCC.out w' hS; go_simp⟩) hS1 ?_
        try simp only [Act.put, List.getElem_toArray, List.getElem_cons_zero, List.getElem_cons_succ, List.setIfInBounds_toArray, List.set_cons_zero, List.set_cons_succ]
        refine wpAnyH_take (i := 7) (v := (.pointer (some ⟨br, 0, none⟩))) rfl (by kernel_rfl) (by kernel_rfl) (by kernel_rfl) (fun _ _ _ h => h) (Or.inl ⟨by rfl, fun w' hS => by obtain ⟨r0, r1, r2, r3, r4, r5⟩ := HCC.out w' hS; go_simp⟩) hS1 ?_
        try simp only [Act.put, List.getElem_toArray, List.getElem_cons_zero, List.getElem_cons_succ, List.setIfInBounds_toArray, List.set_cons_zero, List.set_cons_succ]
        refine wpAnyH_take (i := 8) (v := (.pointer (some ⟨br, 0, none⟩))) rfl (by kernel_rfl) (by kernel_rfl) (by kernel_rfl) (fun _ _ _ h => h) (Or.inl ⟨by rfl, fun w' hS => by obtain ⟨r0, r1, r2, r3, r4, r5⟩ := HCC.out w' hS; go_simp⟩) hS1 ?_
        try simp only [Act.put, List.getElem_toArray, List.getElem_cons_zero, List.getElem_cons_succ, List.setIfInBounds_toArray, List.set_cons_zero, List.set_cons_succ]
        refine wpAnyH_take (i := 9) (v := (.pointer (some ⟨br, 2, none⟩))) rfl (by kernel_rfl) (by kernel_rfl) (by kernel_rfl) (fun _ _ _ h => h) (Or.inl ⟨by rfl, fun w' hS => by obtain ⟨r0, r1, r2, r3, r4, r5⟩ := HCC.out w' hS; go_simp⟩) hS1 ?_
        try simp only [Act.put, List.getElem_toArray, List.getElem_cons_zero, List.getElem_cons_succ, List.setIfInBounds_toArray, List.set_cons_zero, List.set_cons_succ]
        refine wpAnyH_take (i := 10) (v := (.slice (some ⟨gg, 0, none⟩) M.length cap)) rfl (by kernel_rfl) (by kernel_rfl) (by kernel_rfl) (fun _ _ _ h => h) (Or.inl ⟨by rfl, fun w' hS => by obtain ⟨r0, r1, r2, r3, r4, r5⟩ := HCC.out w' hS; go_simp⟩) hS1 ?_
        try simp only [Act.put, List.getElem_toArray, List.getElem_cons_zero, List.getElem_cons_succ, List.setIfInBounds_toArray, List.set_cons_zero, List.set_cons_succ]
        refine wpAnyH_take (i := 11) (v := (.int .i64 (k : Int))) rfl (by kernel_rfl) (by kernel_rfl) (by kernel_rfl) (fun _ _ _ h => h) (Or.inl ⟨by rfl, fun w' hS => by obtain ⟨r0, r1, r2, r3, r4, r5⟩ := HCC.out w' hS; go_simp⟩) hS1 ?_
        try simp only [Act.put, List.getElem_toArray, List.getElem_cons_zero, List.getElem_cons_succ, List.setIfInBounds_toArray, List.set_cons_zero, List.set_cons_succ]
        refine wpAnyH_take (i := 12) (v := (.pointer (some ⟨gg, k * 3, none⟩))) rfl (by kernel_rfl) (by kernel_rfl) (by kernel_rfl) (fun _ _ _ h => h) (Or.inl ⟨by rfl, fun w' hS => by obtain ⟨r0, r1, r2, r3, r4, r5⟩ := HCC.out w' hS; go_simp⟩) hS1 ?_
        try simp only [Act.put, List.getElem_toArray, List.getElem_cons_zero, List.getElem_cons_succ, List.setIfInBounds_toArray, List.set_cons_zero, List.set_cons_succ]
        refine wpAnyH_take (i := 13) (v := (.pointer (some ⟨gg, k * 3 + 1, none⟩))) rfl (by kernel_rfl) (by kernel_rfl) (by kernel_rfl) (fun _ _ _ h => h) (Or.inl ⟨by rfl, fun w' hS => by obtain ⟨r0, r1, r2, r3, r4, r5⟩ := HCC.out w' hS; go_simp⟩) hS1 ?_
        try simp only [Act.put, List.getElem_toArray, List.getElem_cons_zero, List.getElem_cons_succ, List.setIfInBounds_toArray, List.set_cons_zero, List.set_cons_succ]
        refine wpAnyH_take (i := 14) (v := (.agg #[.int .i64 rb, .int .i64 mb])) rfl (by kernel_rfl) (by kernel_rfl) (by kernel_rfl) (fun _ _ _ h => h) (Or.inl ⟨by rfl, fun w' hS => by obtain ⟨r0, r1, r2, r3, r4, r5⟩ := HCC.out w' hS; go_simp⟩) hS1 ?_
        try simp only [Act.put, List.getElem_toArray, List.getElem_cons_zero, List.getElem_cons_succ, List.setIfInBounds_toArray, List.set_cons_zero, List.set_cons_succ]
        refine wpAnyH_take (i := 15) (v := (.pointer (some ⟨br, 0, none⟩))) rfl (by kernel_rfl) (by kernel_rfl) (by kernel_rfl) (fun _ _ _ h => h) (Or.inl ⟨by rfl, fun w' hS => by obtain ⟨r0, r1, r2, r3, r4, r5⟩ := HCC.out w' hS; go_simp⟩) hS1 ?_
        try simp only [Act.put, List.getElem_toArray, List.getElem_cons_zero, List.getElem_cons_succ, List.setIfInBounds_toArray, List.set_cons_zero, List.set_cons_succ]
        refine wpAnyH_take (i := 16) (v := (.pointer (some ⟨br, 0, none⟩))) rfl (by kernel_rfl) (by kernel_rfl) (by kernel_rfl) (fun _ _ _ h => h) (Or.inl ⟨by rfl, fun w' hS => by obtain ⟨r0, r1, r2, r3, r4, r5⟩ := HCC.out w' hS; go_simp⟩) hS1 ?_
        try simp only [Act.put, List.getElem_toArray, List.getElem_cons_zero, List.getElem_cons_succ, List.setIfInBounds_toArray, List.set_cons_zero, List.set_cons_succ]
        refine wpAnyH_take (i := 17) (v := (.pointer (some ⟨br, 2, none⟩))) rfl (by kernel_rfl) (by kernel_rfl) (by kernel_rfl) (fun _ _ _ h => h) (Or.inl ⟨by rfl, fun w' hS => by obtain ⟨r0, r1, r2, r3, r4, r5⟩ := HCC.out w' hS; go_simp⟩) hS1 ?_
        try simp only [Act.put, List.getElem_toArray, List.getElem_cons_zero, List.getElem_cons_succ, List.setIfInBounds_toArray, List.set_cons_zero, List.set_cons_succ]
        refine wpAnyH_take (i := 18) (v := (.slice (some ⟨gg, 0, none⟩) M.length cap)) rfl (by kernel_rfl) (by kernel_rfl) (by kernel_rfl) (fun _ _ _ h => h) (Or.inl ⟨by rfl, fun w' hS => by obtain ⟨r0, r1, r2, r3, r4, r5⟩ := HCC.out w' hS; go_simp⟩) hS1 ?_
        try simp only [Act.put, List.getElem_toArray, List.getElem_cons_zero, List.getElem_cons_succ, List.setIfInBounds_toArray, List.set_cons_zero, List.set_cons_succ]
        refine wpAnyH_take (i := 19) (v := (.int .i64 (j : Int))) rfl (by kernel_rfl) (by kernel_rfl) (by kernel_rfl) (fun _ _ _ h => h) (Or.inl ⟨by rfl, fun w' hS => by obtain ⟨r0, r1, r2, r3, r4, r5⟩ := HCC.out w' hS; go_simp⟩) hS1 ?_
        try simp only [Act.put, List.getElem_toArray, List.getElem_cons_zero, List.getElem_cons_succ, List.setIfInBounds_toArray, List.set_cons_zero, List.set_cons_succ]
        refine wpAnyH_take (i := 20) (v := (.pointer (some ⟨gg, j * 3, none⟩))) rfl (by kernel_rfl) (by kernel_rfl) (by kernel_rfl) (fun _ _ _ h => h) (Or.inl ⟨by rfl, fun w' hS => by obtain ⟨r0, r1, r2, r3, r4, r5⟩ := HCC.out w' hS; go_simp⟩) hS1 ?_
        try simp only [Act.put, List.getElem_toArray, List.getElem_cons_zero, List.getElem_cons_succ, List.setIfInBounds_toArray, List.set_cons_zero, List.set_cons_succ]
        refine wpAnyH_take (i := 21) (v := (.pointer (some ⟨gg, j * 3 + 1, none⟩))) rfl (by kernel_rfl) (by kernel_rfl) (by kernel_rfl) (fun _ _ _ h => h) (Or.inl ⟨by rfl, fun w' hS => by obtain ⟨r0, r1, r2, r3, r4, r5⟩ := HCC.out w' hS; go_simp⟩) hS1 ?_
        try simp only [Act.put, List.getElem_toArray, List.getElem_cons_zero, List.getElem_cons_succ, List.setIfInBounds_toArray, List.set_cons_zero, List.set_cons_succ]
        refine wpAnyH_take (i := 22) (v := (.agg #[.int .i64 ra, .int .i64 ma])) rfl (by kernel_rfl) (by kernel_rfl) (by kernel_rfl) (fun _ _ _ h => h) (Or.inl ⟨by rfl, fun w' hS => by obtain ⟨r0, r1, r2, r3, r4, r5⟩ := HCC.out w' hS; go_simp⟩) hS1 ?_
        try simp only [Act.put, List.getElem_toArray, List.getElem_cons_zero, List.getElem_cons_succ, List.setIfInBounds_toArray, List.set_cons_zero, List.set_cons_succ]
        refine wpAnyH_ready (rs := [23]) (by kernel_rfl) (by simp) ?_
        refine AllReadyH.cons rfl (fun K hK => ?_) AllReadyH.nil
        rw [if_pos (by rfl)]
        go_simp
        refine (before_any way (rb, mb) (ra, ma) _ HW.out).mono ?_
        rintro e w3 ⟨rfl, hf3⟩
        have hS2 := hS1.trans hf3 (fun _ _ h => h)
        refine hK.out _ _ hS2 (fun hS2 => ?_)
        have HF3 := Lib.hid hS2
        clear hK K hf3
        try simp only [Act.put, List.getElem_toArray, List.getElem_cons_zero, List.getElem_cons_succ, List.setIfInBounds_toArray, List.set_cons_zero, List.set_cons_succ]
        refine wpAnyH_take (i := 24) (v := (.bool (bk (wKey way) (rb, mb) (ra, ma)))) rfl (by kernel_rfl) (by kernel_rfl) (by kernel_rfl) (fun _ _ _ h => h) (Or.inl ⟨by rfl, fun w' hS => by go_simp⟩) hS2 ?_
        try simp only [Act.put, List.getElem_toArray, List.getElem_cons_zero, List.getElem_cons_succ, List.setIfInBounds_toArray, List.set_cons_zero, List.set_cons_succ]
        refine wpAnyH_done (by kernel_rfl) ?_ _
        cases hq : bk (wKey way) (rb, mb) (ra, ma)
        · have HQ := Lib.hid hq
          clear hq
          go_wp2_with (fail)
          refine ⟨⟨k + 1, by simp, hlt, best_old hjk HA2.out HB.out HMIN.out HQ.out HA.out, HF3.out⟩, ?_⟩
          simp [intOf]
          omega
        · have HQ := Lib.hid hq
          clear hq
          go_wp2_with (fail)
          refine ⟨⟨k + 1, by simp, hlt, best_new HB.out (fun c hc => ?_), HF3.out⟩, ?_⟩
          · have h1 := HMIN.out c hc
            have h2 : (wKey way) (rb, mb) < (wKey way) (ra, ma) := by
              have := HQ.out
              unfold bk at this
              simpa using this
            unfold hle at h1 ⊢
            dsimp only at h1 ⊢
            omega
          · simp [intOf]
            omega
    · have hkn : k = M.length := by omega
      subst hkn
      have HB := Lib.hid hbest
      have HF := Lib.hid hf
      clear hbest hf
      obtain ⟨bv, hbv⟩ : ∃ bv, bv = u3 := ⟨_, rfl⟩
      subst hbv
      go_wp2_with (fail)
      go_ret
      exact ⟨_, rfl, HB.out, HF.out⟩

end Go.Proofs.Ytikimfdijkejpaa.HT
