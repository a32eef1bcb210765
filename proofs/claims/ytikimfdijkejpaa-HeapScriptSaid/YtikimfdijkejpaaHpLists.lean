/- Lists of numbers that the statements compare: same, without. -/
import Derived.Test.YtikimfdijkejpaaHpOrder
namespace Go.Proofs.Ytikimfdijkejpaa.HT
open Go.RowKit Go.Sb

/-- A slice that reads as these numbers. -/
def RI (w : World) (v : Value) (zs : List Int) : Prop := ∃ a c, v = .slice a zs.length c ∧ zs.length ≤ 4611686018427387904 ∧ (0 < zs.length → ∃ b, a = some ⟨b, 0, none⟩ ∧ ∀ (i : Nat) (x : Int), zs[i]? = some x → w.cell? ⟨b, i, none⟩ = some (.int .i64 x))

theorem own_ri {F : Nat → Prop} {w : World} {v : Value} {n : Nat} {zs : List Int} (h : Own 3 1 F w v n (ivs zs)) (hn : n ≤ 4611686018427387904) : RI w v zs := by
  have hl : n = zs.length := by
    have := h.1
    unfold ivs at this
    rw [List.length_map] at this
    omega
  subst hl
  rcases h.shape with ⟨rfl, h1, _⟩ | ⟨g, cap, rfl, _⟩
  · exact ⟨none, 0, by rw [h1], hn, fun h0 => by omega⟩
  · refine ⟨_, cap, rfl, hn, fun _ => ⟨g, rfl, fun i x hx => h.cell rfl ?_⟩⟩
    unfold ivs
    rw [List.getElem?_map, hx]
    rfl

theorem RI.fr {G : Nat → Prop} {w w' : World} {v : Value} {zs : List Int} (h : RI w v zs) (hf : Fr G w w') (hn : ∀ k, v.ownBlock = some k → ¬ G k) : RI w' v zs := by
  obtain ⟨a, c, rfl, hb, h1⟩ := h
  refine ⟨a, c, rfl, hb, fun h0 => ?_⟩
  obtain ⟨b, rfl, h2⟩ := h1 h0
  exact ⟨b, rfl, fun i x hx => cell_fr hf (h2 i x hx) (hn b rfl)⟩

theorem RI.drewN {w : World} {v : Value} {zs : List Int} (h : RI w v zs) (n : Nat) : RI (w.drewN n) v zs := h

set_option maxRecDepth 100000 in
set_option maxHeartbeats 2000000 in
theorem same_eq (u v : Value) (zs : List Int) (w : World) (hu : RI w u zs) (hv : RI w v zs) :
    Calls Try.prog 38 #[u, v] w fun e w' => e = .returned (.bool true) ∧ ∃ n, w' = w.drewN n := by
  obtain ⟨a, c, rfl, hb, hu⟩ := hu
  obtain ⟨a', c', rfl, _, hv⟩ := hv
  have HU := Lib.hid hu
  have HV := Lib.hid hv
  clear hu hv
  go_enter Try.func38, Try.ntmps38
  go_wp2_with (fail)
  go_loopw [13] (fun s wr => ∃ k n : Nat, s = .int .i64 (k : Int) ∧ k ≤ zs.length ∧ wr = w.drewN n) (fun s _ => zs.length - (intOf s).toNat)
  case atStart => exact ⟨0, 0, rfl, Nat.zero_le _, rfl⟩
  case round =>
    obtain ⟨k, n, rfl, hk, rfl⟩ := hrel
    by_cases hlt : k < zs.length
    · obtain ⟨b, rfl, hc⟩ := HU.out (by omega)
      obtain ⟨b', rfl, hc'⟩ := HV.out (by omega)
      have c1 : (w.drewN n).cell? ⟨b, k, none⟩ = some (.int .i64 zs[k]) := hc k _ (List.getElem?_eq_getElem hlt)
      have c2 : (w.drewN n).cell? ⟨b', k, none⟩ = some (.int .i64 zs[k]) := hc' k _ (List.getElem?_eq_getElem hlt)
      clear hc hc'
      generalize zs[k] = z at *
      generalize hwn : w.drewN n = wn at *
      have HWN := Lib.hid hwn
      clear hwn
      go_wp2_with (fail)
      go_quiet (fail)
      go_wp2_with (fail)
      go_roundw
      case rel => exact ⟨k + 1, _, by go_num, by omega, by rw [← HWN.out, World.drewN_drewN]⟩
      case measure => simp [intOf]; omega
    · go_wp2_with (fail)
      go_ret
      exact ⟨rfl, n, rfl⟩

set_option maxRecDepth 100000 in
set_option maxHeartbeats 2000000 in
theorem without_any (v : Value) (t : Int) (zs : List Int) (w : World) (hv : RI w v zs) (hz : zs.length ≤ 8796093022208) :
    Calls Try.prog 39 #[v, .int .i64 t] w fun e w' => ∃ v', e = .returned v' ∧ Own 3 1 (fun k => w.heap.size ≤ k) w' v' (zs.filter (fun x => x != t)).length (ivs (zs.filter (fun x => x != t))) ∧ Fr (fun _ => False) w w' := by
  obtain ⟨a, c, rfl, hb, hv⟩ := hv
  have HV := Lib.hid hv
  clear hv
  go_enter Try.func39, Try.ntmps39
  go_wp2_with (fail)
  go_loopw [5, 10] (fun v s wr => ∃ k : Nat, s = .int .i64 (k : Int) ∧ k ≤ zs.length ∧ Own 3 1 (fun k => w.heap.size ≤ k) wr v ((zs.take k).filter (fun x => x != t)).length (ivs ((zs.take k).filter (fun x => x != t))) ∧ Fr (fun _ => False) w wr) (fun _ s _ => zs.length - (intOf s).toNat)
  case atStart => exact ⟨0, rfl, Nat.zero_le _, Own.nil _ _ _ _, Fr.refl _ _⟩
  case round =>
    obtain ⟨k, rfl, hk, ho, hf⟩ := hrel
    by_cases hlt : k < zs.length
    · obtain ⟨b, rfl, hc⟩ := HV.out (by omega)
      have c1 := cell_fr hf (hc k _ (List.getElem?_eq_getElem hlt)) id
      have hts : (zs.take (k + 1)).filter (fun x => x != t) = (zs.take k).filter (fun x => x != t) ++ if (zs[k] != t) then [zs[k]] else [] := by
        rw [List.take_succ_eq_append_getElem hlt, List.filter_append]
        congr 1
        cases hq : (zs[k] != t) <;> simp [hq]
      have hfl : ((zs.take k).filter (fun x => x != t)).length ≤ k := Nat.le_trans (List.length_filter_le _ _) (by rw [List.length_take]; omega)
      have HTS := Lib.hid hts
      have HO := Lib.hid ho
      have HF := Lib.hid hf
      clear hts ho hf hc
      generalize zs[k] = z at *
      obtain ⟨ad, q, cc, he⟩ := own_slice HO.out
      subst he
      have hq : q = ((zs.take k).filter (fun x => x != t)).length := by
        rcases HO.out.shape with ⟨h1, h2, _⟩ | ⟨_, _, h1, _⟩
        · cases h1
          exact h2.symm
        · cases h1
          rfl
      have HQ := Lib.hid hq
      have hq2 : q ≤ 8796093022208 := by omega
      clear hq
      rw [← HQ.out] at HO
      by_cases hzt : z = t
      · subst hzt
        have hn0 : (z != z) = false := by simp
        go_wp2_with (fail)
        go_roundw
        case rel =>
          refine ⟨k + 1, by go_num, by omega, ?_, HF.out⟩
          rw [HTS.out, hn0]
          simp only [Bool.false_eq_true, if_false, List.append_nil]
          rw [← HQ.out]
          exact HO.out
        case measure => simp [intOf]; omega
      · have hn1 : (z != t) = true := by simpa using hzt
        have HN1 := Lib.hid hn1
        go_wp2_with (at_builtin; refine wpList_append_Own _ rfl _ _ 22 rfl 3 (.int .i64 0) 1 8 Try.underlying22 infoI rfl (by decide) (.slice ad q cc) q _ rfl (HO.out.alloc _) (.slice (some ⟨wr.heap.size, 0, none⟩) 1 1) 1 [.int .i64 z] rfl (src_num wr z) (by unfold maxLen; omega) (by omega) ?_; intro v4 w4 hv4 hf4 hn4 _; have HV4 := Lib.hid hv4; have HF4 := Lib.hid hf4; clear hv4 hf4 hn4)
        go_roundw
        case rel =>
          have hsw := HF.out.size
          refine ⟨k + 1, by go_num, by omega, ?_, HF.out.trans (((Fr.refl _ wr).alloc _).trans HF4.out (fun _ _ h => h)) (fun j hj h => absurd (show w.heap.size ≤ j from (HO.out.block j h).1) (by omega))⟩
          rw [HTS.out, HN1.out]
          simp only [if_true, List.length_append, List.length_singleton]
          rw [← HQ.out]
          have h2 : ∀ xs : List Int, ivs (xs ++ [z]) = ivs xs ++ [.int .i64 z] := fun xs => by unfold ivs; simp
          rw [h2]
          exact HV4.out.mono (fun j _ hj => hj.elim id (fun hj => by simp at hj; omega))
        case measure => simp [intOf]; omega
    · obtain rfl : k = zs.length := by omega
      go_wp2_with (fail)
      go_ret
      rw [List.take_of_length_le (Nat.le_refl _)] at ho
      exact ⟨_, rfl, ho, hf⟩

end Go.Proofs.Ytikimfdijkejpaa.HT
