/- HeapScript: all heaps stand as the document's. -/
import Derived.Test.YtikimfdijkejpaaHpAct
namespace Go.Proofs.Ytikimfdijkejpaa.HT
open Go.RowKit Go.Sb

def StRel (w0 : World) (bd : Nat) (P : List Pr) (N : Int) (av bv : Value) (ks : List (Nat × Nat)) (fr : Nat) (i : Value) (wr : World) : Prop :=
  ∃ (j : Nat) (vo vw : Value) (E : List Ent), i = .int .i64 (j : Int) ∧ j ≤ ks.length ∧ Desk w0 wr bd P (N + j) av bv vo vw ks E fr

set_option maxRecDepth 100000 in
set_option maxHeartbeats 8000000 in
theorem stands_desk (w0 w : World) (bd : Nat) (P : List Pr) (N : Int) (av bv vo vw : Value) (ks : List (Nat × Nat)) (E : List Ent) (fr : Nat) (h : Desk w0 w bd P N av bv vo vw ks E fr) (h1 : 1 ≤ ks.length) (hN : N ≤ 4398046511090) :
    Calls Try.prog 34 #[.pointer (some ⟨bd, 0, none⟩)] w fun e w' => e = .returned (.bool true) ∧ ∃ vo' vw' E', Desk w0 w' bd P (N + 4) av bv vo' vw' ks E' fr := by
  obtain ⟨ga, ca, rfl, _, _⟩ := Go.Sb.Own.some h.al (by omega)
  obtain ⟨gb, cb, rfl, _, _⟩ := Go.Sb.Own.some h.bl (by omega)
  have hhd : w.heap[bd]? = some (.cells #[.slice (some ⟨ga, 0, none⟩) ks.length ca, .slice (some ⟨gb, 0, none⟩) ks.length cb, vo, vw, .int .i64 (fr : Int)] 71 (0, 0)) := h.held.rows.head
  have d0 : w.cell? ⟨bd, 0, none⟩ = some (.slice (some ⟨ga, 0, none⟩) ks.length ca) := cell_is hhd 0 rfl
  have H0 := Lib.hid (show StRel w0 bd P N (.slice (some ⟨ga, 0, none⟩) ks.length ca) (.slice (some ⟨gb, 0, none⟩) ks.length cb) ks fr (.int .i64 0) w from ⟨0, vo, vw, E, rfl, Nat.zero_le _, by simpa using h⟩)
  have hks := h.ll
  clear h hhd
  go_enter Try.func34, Try.ntmps34
  go_wp2_with (fail)
  go_loopw [9] (fun i wr => StRel w0 bd P N (.slice (some ⟨ga, 0, none⟩) ks.length ca) (.slice (some ⟨gb, 0, none⟩) ks.length cb) ks fr i wr) (fun i _ => ks.length - (intOf i).toNat)
  case atStart => exact H0.out
  case round =>
    obtain ⟨j, vo1, vw1, E1, rfl, hj, hd⟩ := hrel
    by_cases hlt : j < ks.length
    · have hx : ks[j]? = some ks[j] := List.getElem?_eq_getElem hlt
      obtain ⟨i, p, hi, hp1, hp2⟩ := key_at (hd.ks_in _ (List.mem_of_getElem? hx))
      have HDS : Hid (∀ (N' : Int) (w' : World) (vo' vw' : Value) (E' : List Ent), Desk w0 w' bd P N' (.slice (some ⟨ga, 0, none⟩) ks.length ca) (.slice (some ⟨gb, 0, none⟩) ks.length cb) vo' vw' ks E' fr → w'.cell? ⟨bd, 0, none⟩ = some (.slice (some ⟨ga, 0, none⟩) ks.length ca) ∧ w'.cell? ⟨bd, 1, none⟩ = some (.slice (some ⟨gb, 0, none⟩) ks.length cb) ∧ w'.cell? ⟨ga, j, none⟩ = some (.pointer (some ⟨p.bh, 0, none⟩)) ∧ w'.cell? ⟨gb, j, none⟩ = some (.pointer (some ⟨p.br, 0, none⟩))) := Lib.hid (fun N' w' vo' vw' E' h' => by
        have hh' : w'.heap[bd]? = some (.cells #[.slice (some ⟨ga, 0, none⟩) ks.length ca, .slice (some ⟨gb, 0, none⟩) ks.length cb, vo', vw', .int .i64 (fr : Int)] 71 (0, 0)) := h'.held.rows.head
        have e0 := pa_at h'.al hx
        have e1 := pb_at h'.bl hx
        rw [← hp1] at e0
        rw [← hp2] at e1
        exact ⟨cell_is hh' 0 rfl, cell_is hh' 1 rfl, e0, e1⟩)
      have HI := Lib.hid hi
      have HD := Lib.hid hd
      clear hx hi hp1 hp2 hd
      go_wp2_with (fail)
      refine wp_region_held_drew (S := fun w' => w'.cell? ⟨bd, 0, none⟩ = some (.slice (some ⟨ga, 0, none⟩) ks.length ca) ∧ w'.cell? ⟨bd, 1, none⟩ = some (.slice (some ⟨gb, 0, none⟩) ks.length cb) ∧ w'.cell? ⟨ga, j, none⟩ = some (.pointer (some ⟨p.bh, 0, none⟩)) ∧ w'.cell? ⟨gb, j, none⟩ = some (.pointer (some ⟨p.br, 0, none⟩))) (by kernel_rfl) (HDS.out _ _ _ _ _ (HD.out.stay ((Fr.refl (fun _ => False) wr).drew) (Int.le_refl _))) (fun hS1 => ?_)
      refine wpAnyH_take (i := 0) (v := (.pointer (some ⟨bd, 0, none⟩))) rfl (by kernel_rfl) (by kernel_rfl) (by kernel_rfl) (fun _ _ _ h => h) (Or.inl ⟨by rfl, fun w' hS => by obtain ⟨r0, r1, r2, r3⟩ := hS; go_simp⟩) hS1 ?_
      try simp only [Act.put, List.getElem_toArray, List.getElem_cons_zero, List.setIfInBounds_toArray, List.set_cons_zero, List.set_cons_succ]
      refine wpAnyH_take (i := 1) (v := (.int .i64 (j : Int))) rfl (by kernel_rfl) (by kernel_rfl) (by kernel_rfl) (fun _ _ _ h => h) (Or.inl ⟨by rfl, fun w' hS => by obtain ⟨r0, r1, r2, r3⟩ := hS; go_simp⟩) hS1 ?_
      try simp only [Act.put, List.getElem_toArray, List.getElem_cons_zero, List.getElem_cons_succ, List.setIfInBounds_toArray, List.set_cons_zero, List.set_cons_succ]
      refine wpAnyH_ready (rs := [2]) (by kernel_rfl) (by simp) ?_
      refine AllReadyH.cons rfl (fun K hK => ?_) AllReadyH.nil
      rw [if_pos (by rfl)]
      go_simp
      refine (order_desk w0 wr.drew bd P (N + j) _ _ vo1 vw1 ks E1 fr j (HD.out.stay ((Fr.refl (fun _ => False) wr).drew) (Int.le_refl _)) hlt (by omega)).mono ?_
      rintro e w3 ⟨rfl, vo2, vw2, E2, hd2⟩
      have HD2 := Lib.hid hd2
      refine hK.out _ _ (HDS.out _ _ _ _ _ hd2) (fun hS2 => ?_)
      clear hK K hd2
      try simp only [Act.put, List.getElem_toArray, List.getElem_cons_zero, List.getElem_cons_succ, List.setIfInBounds_toArray, List.set_cons_zero, List.set_cons_succ]
      refine wpAnyH_take (i := 3) (v := (.bool false)) rfl (by kernel_rfl) (by kernel_rfl) (by kernel_rfl) (fun _ _ _ h => h) (Or.inl ⟨by rfl, fun w' hS => by obtain ⟨r0, r1, r2, r3⟩ := hS; go_simp⟩) hS2 ?_
      try simp only [Act.put, List.getElem_toArray, List.getElem_cons_zero, List.getElem_cons_succ, List.setIfInBounds_toArray, List.set_cons_zero, List.set_cons_succ]
      refine wpAnyH_take (i := 4) (v := (.bool false)) rfl (by kernel_rfl) (by kernel_rfl) (by kernel_rfl) (fun _ _ _ h => h) (Or.inl ⟨by rfl, fun w' hS => by obtain ⟨r0, r1, r2, r3⟩ := hS; go_simp⟩) hS2 ?_
      try simp only [Act.put, List.getElem_toArray, List.getElem_cons_zero, List.getElem_cons_succ, List.setIfInBounds_toArray, List.set_cons_zero, List.set_cons_succ]
      refine wpAnyH_take (i := 5) (v := (.pointer (some ⟨bd, 0, none⟩))) rfl (by kernel_rfl) (by kernel_rfl) (by kernel_rfl) (fun _ _ _ h => h) (Or.inl ⟨by rfl, fun w' hS => by obtain ⟨r0, r1, r2, r3⟩ := hS; go_simp⟩) hS2 ?_
      try simp only [Act.put, List.getElem_toArray, List.getElem_cons_zero, List.getElem_cons_succ, List.setIfInBounds_toArray, List.set_cons_zero, List.set_cons_succ]
      refine wpAnyH_take (i := 6) (v := (.pointer (some ⟨bd, 0, none⟩))) rfl (by kernel_rfl) (by kernel_rfl) (by kernel_rfl) (fun _ _ _ h => h) (Or.inl ⟨by rfl, fun w' hS => by obtain ⟨r0, r1, r2, r3⟩ := hS; go_simp⟩) hS2 ?_
      try simp only [Act.put, List.getElem_toArray, List.getElem_cons_zero, List.getElem_cons_succ, List.setIfInBounds_toArray, List.set_cons_zero, List.set_cons_succ]
      refine wpAnyH_take (i := 7) (v := (.pointer (some ⟨bd, 0, none⟩))) rfl (by kernel_rfl) (by kernel_rfl) (by kernel_rfl) (fun _ _ _ h => h) (Or.inl ⟨by rfl, fun w' hS => by obtain ⟨r0, r1, r2, r3⟩ := hS; go_simp⟩) hS2 ?_
      try simp only [Act.put, List.getElem_toArray, List.getElem_cons_zero, List.getElem_cons_succ, List.setIfInBounds_toArray, List.set_cons_zero, List.set_cons_succ]
      refine wpAnyH_take (i := 8) (v := (.slice (some ⟨ga, 0, none⟩) ks.length ca)) rfl (by kernel_rfl) (by kernel_rfl) (by kernel_rfl) (fun _ _ _ h => h) (Or.inl ⟨by rfl, fun w' hS => by obtain ⟨r0, r1, r2, r3⟩ := hS; go_simp⟩) hS2 ?_
      try simp only [Act.put, List.getElem_toArray, List.getElem_cons_zero, List.getElem_cons_succ, List.setIfInBounds_toArray, List.set_cons_zero, List.set_cons_succ]
      refine wpAnyH_take (i := 9) (v := (.int .i64 (j : Int))) rfl (by kernel_rfl) (by kernel_rfl) (by kernel_rfl) (fun _ _ _ h => h) (Or.inl ⟨by rfl, fun w' hS => by obtain ⟨r0, r1, r2, r3⟩ := hS; go_simp⟩) hS2 ?_
      try simp only [Act.put, List.getElem_toArray, List.getElem_cons_zero, List.getElem_cons_succ, List.setIfInBounds_toArray, List.set_cons_zero, List.set_cons_succ]
      refine wpAnyH_take (i := 10) (v := (.pointer (some ⟨ga, j, none⟩))) rfl (by kernel_rfl) (by kernel_rfl) (by kernel_rfl) (fun _ _ _ h => h) (Or.inl ⟨by rfl, fun w' hS => by obtain ⟨r0, r1, r2, r3⟩ := hS; go_simp⟩) hS2 ?_
      try simp only [Act.put, List.getElem_toArray, List.getElem_cons_zero, List.getElem_cons_succ, List.setIfInBounds_toArray, List.set_cons_zero, List.set_cons_succ]
      refine wpAnyH_take (i := 11) (v := (.pointer (some ⟨p.bh, 0, none⟩))) rfl (by kernel_rfl) (by kernel_rfl) (by kernel_rfl) (fun _ _ _ h => h) (Or.inl ⟨by rfl, fun w' hS => by obtain ⟨r0, r1, r2, r3⟩ := hS; go_simp⟩) hS2 ?_
      try simp only [Act.put, List.getElem_toArray, List.getElem_cons_zero, List.getElem_cons_succ, List.setIfInBounds_toArray, List.set_cons_zero, List.set_cons_succ]
      refine wpAnyH_take (i := 13) (v := (.pointer (some ⟨bd, 0, none⟩))) rfl (by kernel_rfl) (by kernel_rfl) (by kernel_rfl) (fun _ _ _ h => h) (Or.inl ⟨by rfl, fun w' hS => by obtain ⟨r0, r1, r2, r3⟩ := hS; go_simp⟩) hS2 ?_
      try simp only [Act.put, List.getElem_toArray, List.getElem_cons_zero, List.getElem_cons_succ, List.setIfInBounds_toArray, List.set_cons_zero, List.set_cons_succ]
      refine wpAnyH_take (i := 14) (v := (.pointer (some ⟨bd, 0, none⟩))) rfl (by kernel_rfl) (by kernel_rfl) (by kernel_rfl) (fun _ _ _ h => h) (Or.inl ⟨by rfl, fun w' hS => by obtain ⟨r0, r1, r2, r3⟩ := hS; go_simp⟩) hS2 ?_
      try simp only [Act.put, List.getElem_toArray, List.getElem_cons_zero, List.getElem_cons_succ, List.setIfInBounds_toArray, List.set_cons_zero, List.set_cons_succ]
      refine wpAnyH_take (i := 15) (v := (.pointer (some ⟨bd, 1, none⟩))) rfl (by kernel_rfl) (by kernel_rfl) (by kernel_rfl) (fun _ _ _ h => h) (Or.inl ⟨by rfl, fun w' hS => by obtain ⟨r0, r1, r2, r3⟩ := hS; go_simp⟩) hS2 ?_
      try simp only [Act.put, List.getElem_toArray, List.getElem_cons_zero, List.getElem_cons_succ, List.setIfInBounds_toArray, List.set_cons_zero, List.set_cons_succ]
      refine wpAnyH_take (i := 16) (v := (.slice (some ⟨gb, 0, none⟩) ks.length cb)) rfl (by kernel_rfl) (by kernel_rfl) (by kernel_rfl) (fun _ _ _ h => h) (Or.inl ⟨by rfl, fun w' hS => by obtain ⟨r0, r1, r2, r3⟩ := hS; go_simp⟩) hS2 ?_
      try simp only [Act.put, List.getElem_toArray, List.getElem_cons_zero, List.getElem_cons_succ, List.setIfInBounds_toArray, List.set_cons_zero, List.set_cons_succ]
      refine wpAnyH_take (i := 17) (v := (.int .i64 (j : Int))) rfl (by kernel_rfl) (by kernel_rfl) (by kernel_rfl) (fun _ _ _ h => h) (Or.inl ⟨by rfl, fun w' hS => by obtain ⟨r0, r1, r2, r3⟩ := hS; go_simp⟩) hS2 ?_
      try simp only [Act.put, List.getElem_toArray, List.getElem_cons_zero, List.getElem_cons_succ, List.setIfInBounds_toArray, List.set_cons_zero, List.set_cons_succ]
      refine wpAnyH_take (i := 18) (v := (.pointer (some ⟨gb, j, none⟩))) rfl (by kernel_rfl) (by kernel_rfl) (by kernel_rfl) (fun _ _ _ h => h) (Or.inl ⟨by rfl, fun w' hS => by obtain ⟨r0, r1, r2, r3⟩ := hS; go_simp⟩) hS2 ?_
      try simp only [Act.put, List.getElem_toArray, List.getElem_cons_zero, List.getElem_cons_succ, List.setIfInBounds_toArray, List.set_cons_zero, List.set_cons_succ]
      refine wpAnyH_take (i := 19) (v := (.pointer (some ⟨p.br, 0, none⟩))) rfl (by kernel_rfl) (by kernel_rfl) (by kernel_rfl) (fun _ _ _ h => h) (Or.inl ⟨by rfl, fun w' hS => by obtain ⟨r0, r1, r2, r3⟩ := hS; go_simp⟩) hS2 ?_
      try simp only [Act.put, List.getElem_toArray, List.getElem_cons_zero, List.getElem_cons_succ, List.setIfInBounds_toArray, List.set_cons_zero, List.set_cons_succ]
      refine wpAnyH_ready (rs := [12]) (by kernel_rfl) (by simp) ?_
      refine AllReadyH.cons rfl (fun K hK => ?_) AllReadyH.nil
      rw [if_pos (by rfl)]
      go_simp
      have hR := HD2.out.bank.rep i p HI.out
      refine (len_any hR.q).mono ?_
      rintro e w4 ⟨rfl, rfl⟩
      rw [hR.sim.lenL]
      refine hK.out _ _ hS2 (fun hS3 => ?_)
      clear hK K
      try simp only [Act.put, List.getElem_toArray, List.getElem_cons_zero, List.getElem_cons_succ, List.setIfInBounds_toArray, List.set_cons_zero, List.set_cons_succ]
      refine wpAnyH_ready (rs := [20]) (by kernel_rfl) (by simp) ?_
      refine AllReadyH.cons rfl (fun K hK => ?_) AllReadyH.nil
      rw [if_pos (by rfl)]
      go_simp
      refine (rlen_any hR.r).mono ?_
      rintro e w5 ⟨rfl, rfl⟩
      refine hK.out _ _ hS3 (fun hS4 => ?_)
      clear hK K hR
      try simp only [Act.put, List.getElem_toArray, List.getElem_cons_zero, List.getElem_cons_succ, List.setIfInBounds_toArray, List.set_cons_zero, List.set_cons_succ]
      refine wpAnyH_take (i := 21) (v := (.bool false)) rfl (by kernel_rfl) (by kernel_rfl) (by kernel_rfl) (fun _ _ _ h => h) (Or.inl ⟨by rfl, fun w' hS => by go_simp⟩) hS4 ?_
      try simp only [Act.put, List.getElem_toArray, List.getElem_cons_zero, List.getElem_cons_succ, List.setIfInBounds_toArray, List.set_cons_zero, List.set_cons_succ]
      refine wpAnyH_take (i := 22) (v := (.bool false)) rfl (by kernel_rfl) (by kernel_rfl) (by kernel_rfl) (fun _ _ _ h => h) (Or.inl ⟨by rfl, fun w' hS => by go_simp⟩) hS4 ?_
      try simp only [Act.put, List.getElem_toArray, List.getElem_cons_zero, List.getElem_cons_succ, List.setIfInBounds_toArray, List.set_cons_zero, List.set_cons_succ]
      refine wpAnyH_done (by kernel_rfl) ?_ _
      go_wp2_with (fail)
      refine ⟨⟨j + 1, vo2, vw2, E2, by simp, hlt, ?_⟩, ?_⟩
      · have := HD2.out
        rw [show N + ((j + 1 : Nat) : Int) = N + j + 1 by omega]
        exact this
      · simp [intOf]
        omega
    · have HD := Lib.hid (hd.stay (Fr.refl _ wr) (show N + (j : Int) ≤ N + 4 by omega))
      clear hd
      go_wp2_with (fail)
      go_ret
      exact ⟨rfl, _, _, _, HD.out⟩

end Go.Proofs.Ytikimfdijkejpaa.HT
