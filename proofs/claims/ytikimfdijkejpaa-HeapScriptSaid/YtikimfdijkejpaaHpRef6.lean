/- The document's heap: Order. -/
import Derived.Test.YtikimfdijkejpaaHpRef5
namespace Go.Proofs.Ytikimfdijkejpaa.HT
open Go.RowKit Go.Sb

theorem RRp.foot_lt {F : Nat → Prop} {w : World} {br : Nat} {way last : Int} {rv : Value} {M : List (Int × (Int × Int))} (h : RRp F w br way last rv M) : ∀ k, rfoot br rv k → k < w.heap.size := fun k hk => by
  obtain ⟨cs, hc | hc⟩ := h.foot_cells hk <;> exact lt_of_heap hc

theorem rfoot_ints {F : Nat → Prop} {w : World} {br : Nat} {way last : Int} {rv : Value} {M : List (Int × (Int × Int))} (h : RRp F w br way last rv M) {G : Nat → Prop} {v : Value} {n : Nat} {xs : List Value} (hv : Own 3 1 G w v n xs) : ∀ k, v.ownBlock = some k → ¬ rfoot br rv k := fun k hk hf => by
  obtain ⟨cs, hc⟩ : ∃ cs, w.heap[k]? = Option.some (.cells cs 3 (0, 0)) := by
    rcases hv.2 with ⟨he, _⟩ | ⟨g, cap, cur, he, _, hg, _⟩
    · rw [he] at hk
      cases hk
    · rw [he] at hk
      simp only [Value.ownBlock, Option.some.injEq] at hk
      subst hk
      exact ⟨_, hg⟩
  obtain ⟨cs', hc' | hc'⟩ := h.foot_cells hf
  · exact ne_of_types hc hc' (by decide) rfl
  · exact ne_of_types hc hc' (by decide) rfl

/-- Some have come out, in their order; the others are still there. -/
structure OutSt (key : Int × Int → Int) (M D R : List (Int × (Int × Int))) : Prop where
  perm : (D ++ R).Perm M
  sorted : D.Pairwise (hle key)
  ahead : ∀ d ∈ D, ∀ r ∈ R, hle key d r
  asc : R.Pairwise (fun a b => a.1 < b.1)

theorem erase_perm {α : Type} : ∀ {R : List α} {j : Nat} {a : α}, R[j]? = some a → (a :: R.eraseIdx j).Perm R
  | [], _, _, h => by simp at h
  | x :: R, 0, a, h => by
    simp only [List.getElem?_cons_zero, Option.some.injEq] at h
    subst h
    exact List.Perm.refl _
  | x :: R, j + 1, a, h => by
    have ih := erase_perm (R := R) (j := j) (a := a) (by simpa using h)
    rw [List.eraseIdx_cons_succ]
    exact (List.Perm.swap _ _ _).trans (ih.cons x)

theorem OutSt.step {key : Int × Int → Int} {M D R : List (Int × (Int × Int))} (h : OutSt key M D R) {j : Nat} {a : Int × (Int × Int)} (ha : R[j]? = some a) (hm : ∀ c ∈ R, hle key a c) : OutSt key M (D ++ [a]) (R.eraseIdx j) := by
  have har : a ∈ R := List.mem_of_getElem? ha
  refine ⟨?_, ?_, ?_, h.asc.sublist (List.eraseIdx_sublist _ _)⟩
  · rw [List.append_assoc]
    exact (List.Perm.append_left D (erase_perm ha)).trans h.perm
  · rw [List.pairwise_append]
    exact ⟨h.sorted, List.pairwise_singleton _ _, fun x hx y hy => by
      rw [List.mem_singleton] at hy
      subst hy
      exact h.ahead x hx y har⟩
  · intro d hd r hr
    have hr' : r ∈ R := (List.eraseIdx_sublist _ _).subset hr
    rcases List.mem_append.1 hd with hd | hd
    · exact h.ahead d hd r hr'
    · rw [List.mem_singleton] at hd
      subst hd
      exact hm r hr'

def ROrdRel (way last : Int) (M : List (Int × (Int × Int))) (w : World) (bc : Nat) (v : Value) (wr : World) : Prop :=
  ∃ (D R : List (Int × (Int × Int))) (rv : Value), RRp (fun k => w.heap.size ≤ k) wr bc way last rv R ∧ Own 3 1 (fun k => w.heap.size ≤ k) wr v D.length (ivs (D.map Prod.fst)) ∧ OutSt (wKey way) M D R ∧ Fr (fun _ => False) w wr

set_option maxRecDepth 100000 in
set_option maxHeartbeats 4000000 in
theorem rorder_any {F : Nat → Prop} {br : Nat} {way last : Int} {rv : Value} {M : List (Int × (Int × Int))} {w : World} (hw : way = 0 ∨ way = 1 ∨ way = 2) (h : RRp F w br way last rv M) (hL : M.length ≤ 4398046511104) (hasc : M.Pairwise (fun a b => a.1 < b.1)) :
    Calls Try.prog 80 #[.pointer (some ⟨br, 0, none⟩)] w fun e w' => ∃ (v : Value) (S : List (Int × (Int × Int))), e = .returned v ∧ Own 3 1 (fun k => w.heap.size ≤ k) w' v M.length (ivs (S.map Prod.fst)) ∧ S.Perm M ∧ S.Pairwise (hle (wKey way)) ∧ Fr (fun _ => False) w w' := by
  have HC := Lib.hid (rclone_any h (by omega))
  have HW := Lib.hid hw
  clear h hw
  go_enter Try.func80, Try.ntmps80
  go_wp2_with (go_at_call 81; refine HC.out.mono ?_; rintro e w1 ⟨bc, rv1, rfl, hr1, hf1⟩; have HR1 := Lib.hid hr1; have HF1 := Lib.hid hf1; clear hr1 hf1)
  go_loopw [4] (fun v wr => ROrdRel way last M w bc v wr) (fun v _ => M.length - lenV v)
  case atStart => exact ⟨[], M, rv1, HR1.out, Own.nil _ _ _ _, ⟨List.Perm.refl _, List.Pairwise.nil, by simp, hasc⟩, HF1.out⟩
  case round =>
    obtain ⟨v, rfl⟩ : ∃ v, v = u4 := ⟨_, rfl⟩
    obtain ⟨D, R, rv2, hr, ho, hx, hf⟩ := hrel
    have HR := Lib.hid hr
    have HO := Lib.hid ho
    have HX := Lib.hid hx
    have HF := Lib.hid hf
    have hxl : D.length + R.length = M.length := by
      have := hx.perm.length_eq
      simpa using this
    have HXL := Lib.hid hxl
    clear hr ho hx hf hxl
    obtain ⟨ad, k, c, rfl⟩ := own_slice HO.out
    have hk : k = D.length := by
      rcases HO.out.shape with ⟨h1, h2, _⟩ | ⟨_, _, h1, _⟩
      · cases h1
        omega
      · cases h1
        rfl
    subst hk
    by_cases hR : R.length = 0
    · have hR0 : R = [] := List.eq_nil_of_length_eq_zero hR
      subst hR0
      go_wp2_with (go_at_call 62; refine (rlen_any HR.out).mono ?_; rintro e w2 ⟨rfl, rfl⟩; dsimp only [List.length_nil])
      go_ret
      have hl := HXL.out
      have hp := HX.out.perm
      rw [List.append_nil] at hp
      refine ⟨.slice ad D.length c, D, rfl, ?_, hp, HX.out.sorted, HF.out⟩
      have := HO.out
      have hl2 : D.length = M.length := by simpa using hl
      rw [← hl2]
      exact this
    · have hRl : R.length ≤ 4398046511104 := by have := HXL.out; omega
      have hDl : D.length ≤ 4398046511104 := by have := HXL.out; omega
      have HRX := Lib.hid HR.out.exact
      have HRN := Lib.hid (show 0 < R.length by omega)
      have HRP : Hid (¬ ((R.length : Int) ≤ 0)) := Lib.hid (by omega)
      have hRpos : (0 : Int) < (R.length : Int) := by omega
      clear hR
      go_wp2_with (first
        | (go_at_call 62; refine (rlen_any HR.out).mono ?_; rintro e w2 ⟨rfl, rfl⟩)
        | (go_at_call 57; refine (rpop_some HW.out HRX.out hRl HX.out.asc HRN.out HR.out.foot_lt).mono ?_; rintro e w3 ⟨j, a, rfl, ha, hmin, ⟨rv3, hr3⟩, hf3⟩; dsimp only [thV]; have ho3 := HO.out.of (fun k _ hb => hf3.block k (HO.out.block k hb).2 (rfoot_ints HR.out HO.out k hb)); have HR3 := Lib.hid hr3; have HF3 := Lib.hid hf3; have HO3 := Lib.hid ho3; have HA := Lib.hid ha; have HM := Lib.hid hmin; clear hr3 hf3 ho3 ha hmin)
        | (at_builtin; refine wpList_append_Own _ rfl _ _ 22 rfl 3 (.int .i64 0) 1 8 Try.underlying22 infoI rfl (by decide) (.slice ad D.length c) D.length _ rfl ((HO3.out.alloc _).alloc _) (.slice (some ⟨w3.heap.size + 1, 0, none⟩) 1 1) 1 [.int .i64 a.1] rfl (src_at w3 _ a.1) (by unfold maxLen; omega) (by omega) ?_; intro v4 w4 hv4 hf4 hn4 _; have HV4 := Lib.hid hv4; have HF4 := Lib.hid hf4; clear hv4 hf4 hn4))
      have hs3 := HF3.out.size
      have hsw := HF.out.size
      have hlv := lenV_own HV4.out
      have f34 : Fr (fun k => (Value.slice ad D.length c).ownBlock = some k) w3 w4 := (((Fr.refl _ w3).alloc _).alloc _).trans HF4.out (fun _ _ h => h)
      have hge : ∀ k, rfoot bc rv3 k → w.heap.size ≤ k := fun k hk => by
        rcases HR3.out.foot_in k hk with h1 | h1
        · exact HR.out.foot_in k h1
        · exact Nat.le_trans hsw h1
      have hr4 := (HR3.out.exact.fr f34 (fun k _ hF hb => rfoot_ints HR3.out HO3.out k hb hF)).mono (G := fun k => w.heap.size ≤ k) (fun k _ hF => hge k hF)
      have ho4 := HV4.out.mono (G := fun k => w.heap.size ≤ k) (fun k _ hk => hk.elim id (fun hk => by simp at hk; omega))
      go_roundw
      case rel =>
        refine ⟨D ++ [a], R.eraseIdx j, rv3, hr4, ?_, HX.out.step HA.out HM.out, (HF.out.trans HF3.out (fun k hk h => absurd (show w.heap.size ≤ k from HR.out.foot_in k h) (by omega))).trans f34 (fun k hk h => absurd (show w.heap.size ≤ k from (HO.out.block k h).1) (by omega))⟩
        have h1 : (D ++ [a]).length = D.length + 1 := by simp
        have h2 : ivs ((D ++ [a]).map Prod.fst) = ivs (D.map Prod.fst) ++ [.int .i64 a.1] := by unfold ivs; simp
        rw [h1, h2]
        exact ho4
      case measure =>
        have := HXL.out
        have := HRN.out
        rw [hlv]
        show M.length - (D.length + 1) < M.length - D.length
        omega

end Go.Proofs.Ytikimfdijkejpaa.HT
