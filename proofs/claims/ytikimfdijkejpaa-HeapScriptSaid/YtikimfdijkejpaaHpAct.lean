/- HeapScript: one call of a script. -/
import Derived.Test.YtikimfdijkejpaaHpDClone
import Derived.Laws.StructEq
namespace Go.Proofs.Ytikimfdijkejpaa.HT
open Go.RowKit Go.Sb

theorem eql_thing (W : World) (r m : Int) : (binOp .eql 52 (.agg #[.int .i64 r, .int .i64 m]) (.agg #[.int .i64 r, .int .i64 m])).run Try.prog W = .ok (.bool true) W := by
  rw [run_eql_struct, run_equalIn_agg W 9999 52 _ _ (by kernel_rfl) (by kernel_rfl)]
  simp [go_sem]

/-- what was handed out is written, and grows -/
theorem write_desk (w0 w : World) (bd : Nat) (P : List Pr) (N : Int) (av bv vo vw : Value) (ks : List (Nat × Nat)) (E : List Ent) (fr : Nat) (h : Desk w0 w bd P N av bv vo vw ks E fr) (hN : N ≤ 4398046511104) :
    Calls Try.prog 35 #[.pointer (some ⟨bd, 2, none⟩)] w fun e w' => e = .returned (.bool true) ∧ ∃ vo' vw' E' fr', Desk w0 w' bd P N av bv vo' vw' ks E' fr' := by
  have hfle := h.fle
  have hpot := h.pot
  refine (write_any (F := fun k => bk bd vo vw E k ∨ w.heap.size ≤ k) w bd 4398046511104 fr av bv vo vw E (held_to h.held (fun k hk => .inl hk)) (fun k hk => .inr hk) (by decide) h.lim hfle (by omega)).mono ?_
  rintro e w' ⟨rfl, vo', vw', E', hh, hl, hlen, hf⟩
  refine ⟨rfl, vo', vw', E', E'.length, h.book (Fr.refl _ w) (hf.mono (fun k hk h' => h'.elim id (fun h'' => by omega))) hh (fun k hk => hk.imp id (Nat.le_trans h.frm.size)) (fun j e he => ⟨hl j e he, fun hj => ?_⟩) (Nat.le_refl _) (by omega) (Int.le_refl N)⟩
  have := (List.getElem?_eq_some_iff.1 he).1
  omega

set_option maxRecDepth 100000 in
set_option maxHeartbeats 16000000 in
theorem act_desk (w0 w : World) (bd : Nat) (P : List Pr) (N : Int) (av bv vo vw : Value) (ks : List (Nat × Nat)) (E : List Ent) (fr : Nat) (h : Desk w0 w bd P N av bv vo vw ks E fr) (h1 : 1 ≤ ks.length) (hN : N ≤ 4398046511102) (kd ac tk rx mx : Int) :
    Calls Try.prog 32 #[.pointer (some ⟨bd, 0, none⟩), .agg #[.int .i64 kd, .int .i64 ac, .int .i64 tk, .int .i64 rx, .int .i64 mx]] w (DeskPost w0 bd (N + 1)) := by
  obtain ⟨ga, ca, rfl, _, _⟩ := Go.Sb.Own.some h.al (by omega)
  obtain ⟨gb, cb, rfl, _, _⟩ := Go.Sb.Own.some h.bl (by omega)
  have f1 : Fr (fun _ => False) w (w.alloc (.cells #[.int .i64 kd, .int .i64 ac, .int .i64 tk, .int .i64 rx, .int .i64 mx] 55)) := (Fr.refl _ w).alloc _
  have HB1 := Lib.hid (heap_alloc_eq w (.cells #[.int .i64 kd, .int .i64 ac, .int .i64 tk, .int .i64 rx, .int .i64 mx] 55))
  have H1 := Lib.hid (h.stay f1 (Int.le_refl N))
  have hks := h.ll
  clear h f1
  have heq := eql_thing
  go_enter Try.func32, Try.ntmps32
  go_wp2_with (fail)
  generalize hb3 : w.heap.size = b3 at *
  generalize hw1 : w.alloc (.cells #[.int .i64 kd, .int .i64 ac, .int .i64 tk, .int .i64 rx, .int .i64 mx] 55) = w1 at *
  clear hw1
  have hhd : w1.heap[bd]? = some (.cells #[.slice (some ⟨ga, 0, none⟩) ks.length ca, .slice (some ⟨gb, 0, none⟩) ks.length cb, vo, vw, .int .i64 (fr : Int)] 71 (0, 0)) := H1.out.held.rows.head
  have HCC : Hid (∀ w', Fr (fun _ => False) w1 w' → w'.cell? ⟨bd, 0, none⟩ = some (.slice (some ⟨ga, 0, none⟩) ks.length ca) ∧ w'.cell? ⟨bd, 1, none⟩ = some (.slice (some ⟨gb, 0, none⟩) ks.length cb) ∧ w'.cell? ⟨b3, 1, none⟩ = some (.int .i64 ac)) :=
    Lib.hid (fun w' hf => ⟨cell_fr hf (cell_is hhd 0 rfl) id, cell_fr hf (cell_is hhd 1 rfl) id, cell_fr hf (cell_is HB1.out 1 rfl) id⟩)
  clear hhd
  refine wp_region_held_drew (S := fun w' => Fr (fun _ => False) w1 w') (by kernel_rfl) ((Fr.refl _ w1).drew) (fun hS1 => ?_)
  refine wpAnyH_take (i := 0) (v := (.pointer (some ⟨b3, 1, none⟩))) rfl (by kernel_rfl) (by kernel_rfl) (by kernel_rfl) (fun _ _ _ h => h) (Or.inl ⟨by rfl, fun w' hS => by obtain ⟨r0, r1, r2⟩ := HCC.out w' hS; go_simp⟩) hS1 ?_
  try simp only [Act.put, List.getElem_toArray, List.getElem_cons_zero, List.setIfInBounds_toArray, List.set_cons_zero, List.set_cons_succ]
  refine wpAnyH_take (i := 1) (v := (.int .i64 ac)) rfl (by kernel_rfl) (by kernel_rfl) (by kernel_rfl) (fun _ _ _ h => h) (Or.inl ⟨by rfl, fun w' hS => by obtain ⟨r0, r1, r2⟩ := HCC.out w' hS; go_simp⟩) hS1 ?_
  try simp only [Act.put, List.getElem_toArray, List.getElem_cons_zero, List.getElem_cons_succ, List.setIfInBounds_toArray, List.set_cons_zero, List.set_cons_succ]
  refine wpAnyH_take (i := 2) (v := (.pointer (some ⟨bd, 0, none⟩))) rfl (by kernel_rfl) (by kernel_rfl) (by kernel_rfl) (fun _ _ _ h => h) (Or.inl ⟨by rfl, fun w' hS => by obtain ⟨r0, r1, r2⟩ := HCC.out w' hS; go_simp⟩) hS1 ?_
  try simp only [Act.put, List.getElem_toArray, List.getElem_cons_zero, List.getElem_cons_succ, List.setIfInBounds_toArray, List.set_cons_zero, List.set_cons_succ]
  refine wpAnyH_take (i := 3) (v := (.pointer (some ⟨bd, 0, none⟩))) rfl (by kernel_rfl) (by kernel_rfl) (by kernel_rfl) (fun _ _ _ h => h) (Or.inl ⟨by rfl, fun w' hS => by obtain ⟨r0, r1, r2⟩ := HCC.out w' hS; go_simp⟩) hS1 ?_
  try simp only [Act.put, List.getElem_toArray, List.getElem_cons_zero, List.getElem_cons_succ, List.setIfInBounds_toArray, List.set_cons_zero, List.set_cons_succ]
  refine wpAnyH_take (i := 4) (v := (.pointer (some ⟨bd, 0, none⟩))) rfl (by kernel_rfl) (by kernel_rfl) (by kernel_rfl) (fun _ _ _ h => h) (Or.inl ⟨by rfl, fun w' hS => by obtain ⟨r0, r1, r2⟩ := HCC.out w' hS; go_simp⟩) hS1 ?_
  try simp only [Act.put, List.getElem_toArray, List.getElem_cons_zero, List.getElem_cons_succ, List.setIfInBounds_toArray, List.set_cons_zero, List.set_cons_succ]
  refine wpAnyH_take (i := 5) (v := (.slice (some ⟨ga, 0, none⟩) ks.length ca)) rfl (by kernel_rfl) (by kernel_rfl) (by kernel_rfl) (fun _ _ _ h => h) (Or.inl ⟨by rfl, fun w' hS => by obtain ⟨r0, r1, r2⟩ := HCC.out w' hS; go_simp⟩) hS1 ?_
  try simp only [Act.put, List.getElem_toArray, List.getElem_cons_zero, List.getElem_cons_succ, List.setIfInBounds_toArray, List.set_cons_zero, List.set_cons_succ]
  refine wpAnyH_take (i := 6) (v := (.int .i64 (ks.length : Int))) rfl (by kernel_rfl) (by kernel_rfl) (by kernel_rfl) (fun _ _ _ h => h) (Or.inl ⟨by rfl, fun w' hS => by obtain ⟨r0, r1, r2⟩ := HCC.out w' hS; go_simp⟩) hS1 ?_
  try simp only [Act.put, List.getElem_toArray, List.getElem_cons_zero, List.getElem_cons_succ, List.setIfInBounds_toArray, List.set_cons_zero, List.set_cons_succ]
  refine wpAnyH_ready (rs := [7]) (by kernel_rfl) (by simp) ?_
  refine AllReadyH.cons rfl (fun K hK => ?_) AllReadyH.nil
  rw [if_pos (by rfl)]
  go_simp
  refine (among_any ac ks.length _ (by omega) (by omega)).mono ?_
  rintro e w2 ⟨rfl, rfl⟩
  have hk0 : 0 ≤ ac % (ks.length : Int) := Int.emod_nonneg _ (by omega)
  have hk1 : ac % (ks.length : Int) < ks.length := Int.emod_lt_of_pos _ (by omega)
  obtain ⟨k, hk⟩ := Int.eq_ofNat_of_zero_le hk0
  rw [hk] at hk1 ⊢
  have hkl : k < ks.length := by omega
  refine hK.out _ _ hS1 (fun hS2 => ?_)
  clear hK K hk0 hk hk1
  try simp only [Act.put, List.getElem_toArray, List.getElem_cons_zero, List.getElem_cons_succ, List.setIfInBounds_toArray, List.set_cons_zero, List.set_cons_succ]
  refine wpAnyH_take (i := 8) (v := (.int .i64 (k : Int))) rfl (by kernel_rfl) (by kernel_rfl) (by kernel_rfl) (fun _ _ _ h => h) (Or.inl ⟨by rfl, fun w' hS => by go_simp⟩) hS2 ?_
  try simp only [Act.put, List.getElem_toArray, List.getElem_cons_zero, List.getElem_cons_succ, List.setIfInBounds_toArray, List.set_cons_zero, List.set_cons_succ]
  refine wpAnyH_done (by kernel_rfl) ?_ _
  have hx : ks[k]? = some ks[k] := List.getElem?_eq_getElem hkl
  obtain ⟨i, p, hi, hp1, hp2⟩ := key_at (H1.out.ks_in _ (List.mem_of_getElem? hx))
  have ca0 := pa_at H1.out.al hx
  have cb0 := pb_at H1.out.bl hx
  rw [← hp1] at ca0
  rw [← hp2] at cb0
  have HCD : Hid (∀ w', Fr (fun _ => False) w1 w' → w'.cell? ⟨ga, k, none⟩ = some (.pointer (some ⟨p.bh, 0, none⟩)) ∧ w'.cell? ⟨gb, k, none⟩ = some (.pointer (some ⟨p.br, 0, none⟩))) := Lib.hid (fun w' hf => ⟨cell_fr hf ca0 id, cell_fr hf cb0 id⟩)
  clear hx hp1 hp2 ca0 cb0
  go_wp2_with (fail)
  refine wp_region_held_drew (S := fun w' => Fr (fun _ => False) w1 w') (by kernel_rfl) (hS2.drew) (fun hS3 => ?_)
  refine wpAnyH_take (i := 0) (v := (.pointer (some ⟨bd, 0, none⟩))) rfl (by kernel_rfl) (by kernel_rfl) (by kernel_rfl) (fun _ _ _ h => h) (Or.inl ⟨by rfl, fun w' hS => by obtain ⟨r0, r1, r2⟩ := HCC.out w' hS; obtain ⟨r3, r4⟩ := HCD.out w' hS; go_simp⟩) hS3 ?_
  try simp only [Act.put, List.getElem_toArray, List.getElem_cons_zero, List.setIfInBounds_toArray, List.set_cons_zero, List.set_cons_succ]
  refine wpAnyH_take (i := 1) (v := (.pointer (some ⟨bd, 0, none⟩))) rfl (by kernel_rfl) (by kernel_rfl) (by kernel_rfl) (fun _ _ _ h => h) (Or.inl ⟨by rfl, fun w' hS => by obtain ⟨r0, r1, r2⟩ := HCC.out w' hS; obtain ⟨r3, r4⟩ := HCD.out w' hS; go_simp⟩) hS3 ?_
  try simp only [Act.put, List.getElem_toArray, List.getElem_cons_zero, List.getElem_cons_succ, List.setIfInBounds_toArray, List.set_cons_zero, List.set_cons_succ]
  refine wpAnyH_take (i := 2) (v := (.pointer (some ⟨bd, 0, none⟩))) rfl (by kernel_rfl) (by kernel_rfl) (by kernel_rfl) (fun _ _ _ h => h) (Or.inl ⟨by rfl, fun w' hS => by obtain ⟨r0, r1, r2⟩ := HCC.out w' hS; obtain ⟨r3, r4⟩ := HCD.out w' hS; go_simp⟩) hS3 ?_
  try simp only [Act.put, List.getElem_toArray, List.getElem_cons_zero, List.getElem_cons_succ, List.setIfInBounds_toArray, List.set_cons_zero, List.set_cons_succ]
  refine wpAnyH_take (i := 3) (v := (.slice (some ⟨ga, 0, none⟩) ks.length ca)) rfl (by kernel_rfl) (by kernel_rfl) (by kernel_rfl) (fun _ _ _ h => h) (Or.inl ⟨by rfl, fun w' hS => by obtain ⟨r0, r1, r2⟩ := HCC.out w' hS; obtain ⟨r3, r4⟩ := HCD.out w' hS; go_simp⟩) hS3 ?_
  try simp only [Act.put, List.getElem_toArray, List.getElem_cons_zero, List.getElem_cons_succ, List.setIfInBounds_toArray, List.set_cons_zero, List.set_cons_succ]
  refine wpAnyH_take (i := 4) (v := (.int .i64 (k : Int))) rfl (by kernel_rfl) (by kernel_rfl) (by kernel_rfl) (fun _ _ _ h => h) (Or.inl ⟨by rfl, fun w' hS => by obtain ⟨r0, r1, r2⟩ := HCC.out w' hS; obtain ⟨r3, r4⟩ := HCD.out w' hS; go_simp⟩) hS3 ?_
  try simp only [Act.put, List.getElem_toArray, List.getElem_cons_zero, List.getElem_cons_succ, List.setIfInBounds_toArray, List.set_cons_zero, List.set_cons_succ]
  refine wpAnyH_take (i := 5) (v := (.pointer (some ⟨ga, k, none⟩))) rfl (by kernel_rfl) (by kernel_rfl) (by kernel_rfl) (fun _ _ _ h => h) (Or.inl ⟨by rfl, fun w' hS => by obtain ⟨r0, r1, r2⟩ := HCC.out w' hS; obtain ⟨r3, r4⟩ := HCD.out w' hS; go_simp⟩) hS3 ?_
  try simp only [Act.put, List.getElem_toArray, List.getElem_cons_zero, List.getElem_cons_succ, List.setIfInBounds_toArray, List.set_cons_zero, List.set_cons_succ]
  refine wpAnyH_take (i := 6) (v := (.pointer (some ⟨p.bh, 0, none⟩))) rfl (by kernel_rfl) (by kernel_rfl) (by kernel_rfl) (fun _ _ _ h => h) (Or.inl ⟨by rfl, fun w' hS => by obtain ⟨r0, r1, r2⟩ := HCC.out w' hS; obtain ⟨r3, r4⟩ := HCD.out w' hS; go_simp⟩) hS3 ?_
  try simp only [Act.put, List.getElem_toArray, List.getElem_cons_zero, List.getElem_cons_succ, List.setIfInBounds_toArray, List.set_cons_zero, List.set_cons_succ]
  refine wpAnyH_take (i := 7) (v := (.pointer (some ⟨bd, 0, none⟩))) rfl (by kernel_rfl) (by kernel_rfl) (by kernel_rfl) (fun _ _ _ h => h) (Or.inl ⟨by rfl, fun w' hS => by obtain ⟨r0, r1, r2⟩ := HCC.out w' hS; obtain ⟨r3, r4⟩ := HCD.out w' hS; go_simp⟩) hS3 ?_
  try simp only [Act.put, List.getElem_toArray, List.getElem_cons_zero, List.getElem_cons_succ, List.setIfInBounds_toArray, List.set_cons_zero, List.set_cons_succ]
  refine wpAnyH_take (i := 8) (v := (.pointer (some ⟨bd, 0, none⟩))) rfl (by kernel_rfl) (by kernel_rfl) (by kernel_rfl) (fun _ _ _ h => h) (Or.inl ⟨by rfl, fun w' hS => by obtain ⟨r0, r1, r2⟩ := HCC.out w' hS; obtain ⟨r3, r4⟩ := HCD.out w' hS; go_simp⟩) hS3 ?_
  try simp only [Act.put, List.getElem_toArray, List.getElem_cons_zero, List.getElem_cons_succ, List.setIfInBounds_toArray, List.set_cons_zero, List.set_cons_succ]
  refine wpAnyH_take (i := 9) (v := (.pointer (some ⟨bd, 1, none⟩))) rfl (by kernel_rfl) (by kernel_rfl) (by kernel_rfl) (fun _ _ _ h => h) (Or.inl ⟨by rfl, fun w' hS => by obtain ⟨r0, r1, r2⟩ := HCC.out w' hS; obtain ⟨r3, r4⟩ := HCD.out w' hS; go_simp⟩) hS3 ?_
  try simp only [Act.put, List.getElem_toArray, List.getElem_cons_zero, List.getElem_cons_succ, List.setIfInBounds_toArray, List.set_cons_zero, List.set_cons_succ]
  refine wpAnyH_take (i := 10) (v := (.slice (some ⟨gb, 0, none⟩) ks.length cb)) rfl (by kernel_rfl) (by kernel_rfl) (by kernel_rfl) (fun _ _ _ h => h) (Or.inl ⟨by rfl, fun w' hS => by obtain ⟨r0, r1, r2⟩ := HCC.out w' hS; obtain ⟨r3, r4⟩ := HCD.out w' hS; go_simp⟩) hS3 ?_
  try simp only [Act.put, List.getElem_toArray, List.getElem_cons_zero, List.getElem_cons_succ, List.setIfInBounds_toArray, List.set_cons_zero, List.set_cons_succ]
  refine wpAnyH_take (i := 11) (v := (.int .i64 (k : Int))) rfl (by kernel_rfl) (by kernel_rfl) (by kernel_rfl) (fun _ _ _ h => h) (Or.inl ⟨by rfl, fun w' hS => by obtain ⟨r0, r1, r2⟩ := HCC.out w' hS; obtain ⟨r3, r4⟩ := HCD.out w' hS; go_simp⟩) hS3 ?_
  try simp only [Act.put, List.getElem_toArray, List.getElem_cons_zero, List.getElem_cons_succ, List.setIfInBounds_toArray, List.set_cons_zero, List.set_cons_succ]
  refine wpAnyH_take (i := 12) (v := (.pointer (some ⟨gb, k, none⟩))) rfl (by kernel_rfl) (by kernel_rfl) (by kernel_rfl) (fun _ _ _ h => h) (Or.inl ⟨by rfl, fun w' hS => by obtain ⟨r0, r1, r2⟩ := HCC.out w' hS; obtain ⟨r3, r4⟩ := HCD.out w' hS; go_simp⟩) hS3 ?_
  try simp only [Act.put, List.getElem_toArray, List.getElem_cons_zero, List.getElem_cons_succ, List.setIfInBounds_toArray, List.set_cons_zero, List.set_cons_succ]
  refine wpAnyH_take (i := 13) (v := (.pointer (some ⟨p.br, 0, none⟩))) rfl (by kernel_rfl) (by kernel_rfl) (by kernel_rfl) (fun _ _ _ h => h) (Or.inl ⟨by rfl, fun w' hS => by obtain ⟨r0, r1, r2⟩ := HCC.out w' hS; obtain ⟨r3, r4⟩ := HCD.out w' hS; go_simp⟩) hS3 ?_
  try simp only [Act.put, List.getElem_toArray, List.getElem_cons_zero, List.getElem_cons_succ, List.setIfInBounds_toArray, List.set_cons_zero, List.set_cons_succ]
  refine wpAnyH_take (i := 14) (v := (.pointer (some ⟨p.bh, 0, none⟩))) rfl (by kernel_rfl) (by kernel_rfl) (by kernel_rfl) (fun _ _ _ h => h) (Or.inl ⟨by rfl, fun w' hS => by obtain ⟨r0, r1, r2⟩ := HCC.out w' hS; obtain ⟨r3, r4⟩ := HCD.out w' hS; go_simp⟩) hS3 ?_
  try simp only [Act.put, List.getElem_toArray, List.getElem_cons_zero, List.getElem_cons_succ, List.setIfInBounds_toArray, List.set_cons_zero, List.set_cons_succ]
  refine wpAnyH_take (i := 15) (v := (.pointer (some ⟨p.br, 0, none⟩))) rfl (by kernel_rfl) (by kernel_rfl) (by kernel_rfl) (fun _ _ _ h => h) (Or.inl ⟨by rfl, fun w' hS => by obtain ⟨r0, r1, r2⟩ := HCC.out w' hS; obtain ⟨r3, r4⟩ := HCD.out w' hS; go_simp⟩) hS3 ?_
  try simp only [Act.put, List.getElem_toArray, List.getElem_cons_zero, List.getElem_cons_succ, List.setIfInBounds_toArray, List.set_cons_zero, List.set_cons_succ]
  refine wpAnyH_done (by kernel_rfl) ?_ _
  generalize hwx : w1.drew.drew = wx at *
  clear hwx
  have HD := Lib.hid (H1.out.stay hS3 (Int.le_refl N))
  have HBX := Lib.hid (hS3.get HB1.out id)
  have HR := Lib.hid (HD.out.bank.rep i p hi)
  have hpg := HD.out.bank.le i p hi
  have hpl := HR.out.sim.len
  have hg0 := HR.out.sim.g0
  have HPL := Lib.hid HR.out.sim.lenL
  clear hS1 hS2 hS3 H1 HB1 HCC HCD
  have x0 : wx.cell? ⟨b3, 0, none⟩ = some (.int .i64 kd) := cell_is HBX.out 0 rfl
  have x2 : wx.cell? ⟨b3, 2, none⟩ = some (.int .i64 tk) := cell_is HBX.out 2 rfl
  have x3 : wx.cell? ⟨b3, 3, none⟩ = some (.int .i64 rx) := cell_is HBX.out 3 rfl
  have x4 : wx.cell? ⟨b3, 4, none⟩ = some (.int .i64 mx) := cell_is HBX.out 4 rfl
  go_wp2_with (fail)
  refine (among_any kd 10 _ (by decide) (by decide)).mono ?_
  rintro e w2 ⟨rfl, rfl⟩
  have hq0 : 0 ≤ kd % 10 := Int.emod_nonneg _ (by decide)
  have hq1 : kd % 10 < 10 := Int.emod_lt_of_pos _ (by decide)
  generalize kd % 10 = q at *
  have HXX : Hid (∀ w', Fr p.foot wx w' → w'.cell? ⟨b3, 2, none⟩ = some (.int .i64 tk) ∧ w'.cell? ⟨b3, 3, none⟩ = some (.int .i64 rx) ∧ w'.cell? ⟨b3, 4, none⟩ = some (.int .i64 mx)) :=
    have hn := HR.out.not HBX.out (by decide) (by decide) (by decide) (by decide)
    Lib.hid (fun w' hf => ⟨cell_fr hf x2 hn, cell_fr hf x3 hn, cell_fr hf x4 hn⟩)
  have HI := Lib.hid hi
  have HB := Lib.hid (way_spec p.way HR.out.hw)
  clear hi
  by_cases e0 : q = 0
  · subst e0
    go_wp2_with (fail)
    refine wp_region_held_drew (S := fun w' => Fr p.foot wx w') (by kernel_rfl) ((Fr.refl _ wx).drew) (fun hS1 => ?_)
    refine wpAnyH_take (i := 0) (v := (.pointer (some ⟨p.bh, 0, none⟩))) rfl (by kernel_rfl) (by kernel_rfl) (by kernel_rfl) (fun _ _ _ h => h) (Or.inl ⟨by rfl, fun w' hS => by obtain ⟨r2, r3, r4⟩ := HXX.out w' hS; go_simp⟩) hS1 ?_
    try simp only [Act.put, List.getElem_toArray, List.getElem_cons_zero, List.setIfInBounds_toArray, List.set_cons_zero, List.set_cons_succ]
    refine wpAnyH_take (i := 1) (v := (.pointer (some ⟨b3, 3, none⟩))) rfl (by kernel_rfl) (by kernel_rfl) (by kernel_rfl) (fun _ _ _ h => h) (Or.inl ⟨by rfl, fun w' hS => by obtain ⟨r2, r3, r4⟩ := HXX.out w' hS; go_simp⟩) hS1 ?_
    try simp only [Act.put, List.getElem_toArray, List.getElem_cons_zero, List.getElem_cons_succ, List.setIfInBounds_toArray, List.set_cons_zero, List.set_cons_succ]
    refine wpAnyH_take (i := 2) (v := (.agg #[.int .i64 rx, .int .i64 mx])) rfl (by kernel_rfl) (by kernel_rfl) (by kernel_rfl) (fun _ _ _ h => h) (Or.inl ⟨by rfl, fun w' hS => by obtain ⟨r2, r3, r4⟩ := HXX.out w' hS; go_simp⟩) hS1 ?_
    try simp only [Act.put, List.getElem_toArray, List.getElem_cons_zero, List.getElem_cons_succ, List.setIfInBounds_toArray, List.set_cons_zero, List.set_cons_succ]
    refine wpAnyH_take (i := 4) (v := (.pointer (some ⟨p.br, 0, none⟩))) rfl (by kernel_rfl) (by kernel_rfl) (by kernel_rfl) (fun _ _ _ h => h) (Or.inl ⟨by rfl, fun w' hS => by obtain ⟨r2, r3, r4⟩ := HXX.out w' hS; go_simp⟩) hS1 ?_
    try simp only [Act.put, List.getElem_toArray, List.getElem_cons_zero, List.getElem_cons_succ, List.setIfInBounds_toArray, List.set_cons_zero, List.set_cons_succ]
    refine wpAnyH_take (i := 5) (v := (.pointer (some ⟨b3, 3, none⟩))) rfl (by kernel_rfl) (by kernel_rfl) (by kernel_rfl) (fun _ _ _ h => h) (Or.inl ⟨by rfl, fun w' hS => by obtain ⟨r2, r3, r4⟩ := HXX.out w' hS; go_simp⟩) hS1 ?_
    try simp only [Act.put, List.getElem_toArray, List.getElem_cons_zero, List.getElem_cons_succ, List.setIfInBounds_toArray, List.set_cons_zero, List.set_cons_succ]
    refine wpAnyH_take (i := 6) (v := (.agg #[.int .i64 rx, .int .i64 mx])) rfl (by kernel_rfl) (by kernel_rfl) (by kernel_rfl) (fun _ _ _ h => h) (Or.inl ⟨by rfl, fun w' hS => by obtain ⟨r2, r3, r4⟩ := HXX.out w' hS; go_simp⟩) hS1 ?_
    try simp only [Act.put, List.getElem_toArray, List.getElem_cons_zero, List.getElem_cons_succ, List.setIfInBounds_toArray, List.set_cons_zero, List.set_cons_succ]
    refine wpAnyH_ready (rs := [3]) (by kernel_rfl) (by simp) ?_
    refine AllReadyH.cons rfl (fun K hK => ?_) AllReadyH.nil
    rw [if_pos (by rfl)]
    go_simp
    have hR7 := HR.out.fr ((Fr.refl (fun _ => False) wx).drew) (fun _ _ h => h)
    refine (push_any HB.out (rx, mx) hR7.q hg0 (by omega) (by have := HPL.out; omega) hR7.sim.leL (fun _ _ => trivial) trivial (c := 0) trivial (fun k h => h.elim)).mono ?_
    rintro e w8 ⟨rfl, ⟨lv8, m8, hq8⟩, _, hf8⟩
    have hf8' : Fr (foot p.bh p.bm p.lv) wx.drew w8 := hf8.mono (fun k _ h => h.elim id (fun h => h.elim))
    have hr8 := hR7.r.fr hf8' (fun k _ hk hk' => hR7.dj k hk' hk)
    have hS9 : Fr p.foot wx w8 := ((Fr.refl p.foot wx).drew).trans hf8' (fun k _ hk => .inl hk)
    refine hK.out _ _ hS9 (fun hS9 => ?_)
    clear hK K hf8
    try simp only [Act.put, List.getElem_toArray, List.getElem_cons_zero, List.getElem_cons_succ, List.setIfInBounds_toArray, List.set_cons_zero, List.set_cons_succ]
    refine wpAnyH_ready (rs := [7]) (by kernel_rfl) (by simp) ?_
    refine AllReadyH.cons rfl (fun K hK => ?_) AllReadyH.nil
    rw [if_pos (by rfl)]
    go_simp
    refine (rpush_any (rx, mx) hr8 hg0 (by omega) (by omega)).mono ?_
    rintro e w9 ⟨rfl, ⟨rv9, hr9⟩, hf9⟩
    obtain ⟨p', ht, hg', _⟩ := hR7.turn hq8 hf8' (Fr.refl _ w8) hr9 hf9 (hR7.sim.push (rx, mx))
    have ht' := PTurn.ahead ((Fr.refl (fun _ => False) wx).drew) ht
    have HD9 := Lib.hid (HD.out.turn (N' := N + 1) HI.out ht' (by omega) (by omega))
    refine hK.out _ _ ht'.fr (fun hS10 => ?_)
    clear hK K hf8' hr8 hq8 hr9 hf9 ht ht' hR7
    try simp only [Act.put, List.getElem_toArray, List.getElem_cons_zero, List.getElem_cons_succ, List.setIfInBounds_toArray, List.set_cons_zero, List.set_cons_succ]
    refine wpAnyH_take (i := 8) (v := (.bool true)) rfl (by kernel_rfl) (by kernel_rfl) (by kernel_rfl) (fun _ _ _ h => h) (Or.inl ⟨by rfl, fun w' hS => by go_simp⟩) hS10 ?_
    try simp only [Act.put, List.getElem_toArray, List.getElem_cons_zero, List.getElem_cons_succ, List.setIfInBounds_toArray, List.set_cons_zero, List.set_cons_succ]
    refine wpAnyH_take (i := 9) (v := (.bool true)) rfl (by kernel_rfl) (by kernel_rfl) (by kernel_rfl) (fun _ _ _ h => h) (Or.inl ⟨by rfl, fun w' hS => by go_simp⟩) hS10 ?_
    try simp only [Act.put, List.getElem_toArray, List.getElem_cons_zero, List.getElem_cons_succ, List.setIfInBounds_toArray, List.set_cons_zero, List.set_cons_succ]
    refine wpAnyH_done (by kernel_rfl) ?_ _
    go_wp2_with (fail)
    go_ret
    exact ⟨rfl, _, _, _, _, _, _, _, _, HD9.out, h1⟩
  have n0 : (q == 0) = false := by simpa using e0
  by_cases e1 : q = 1
  · subst e1
    by_cases hM : p.M.length = 0
    · have hM0 : p.M = [] := List.eq_nil_of_length_eq_zero hM
      have hL0 : p.L = [] := List.eq_nil_of_length_eq_zero (by have := HPL.out; omega)
      have hq0 := HR.out.q
      rw [hL0] at hq0
      have HQ0 := Lib.hid hq0
      clear hq0
      go_wp2_with (fail)
      refine (top_none HQ0.out).mono ?_
      rintro e w2 ⟨rfl, hf2⟩
      have hf2' : Fr (foot p.bh p.bm p.lv) wx w2 := (hf2.mono (fun _ _ h => h.elim))
      have hfa : Fr (fun _ => False) w2 (w2.alloc (.cells #[.int .i64 0, .int .i64 0] 52)) := (Fr.refl _ w2).alloc _
      have hn2 := heap_alloc_eq w2 (.cells #[.int .i64 0, .int .i64 0] 52)
      have hr3 : RRp (rfoot p.br p.rv) (w2.alloc (.cells #[.int .i64 0, .int .i64 0] 52)) p.br p.way p.g p.rv p.M := (HR.out.r.fr hf2' (fun k _ hk hk' => HR.out.dj k hk' hk)).fr hfa (fun _ _ _ h => h)
      have hp23 : Fr p.foot wx (w2.alloc (.cells #[.int .i64 0, .int .i64 0] 52)) := (hf2'.mono (fun k _ h => .inl h)).trans hfa (fun _ _ h => h.elim)
      obtain ⟨y2, _, _⟩ := HXX.out _ hp23
      have HF2 := Lib.hid hf2'
      have HQ1 := Lib.hid hf2
      have HFA := Lib.hid hfa
      have HN2 := Lib.hid hn2
      have HR3 := Lib.hid hr3
      have HP23 := Lib.hid hp23
      clear hf2' hfa hn2 hr3 hp23
      try unfold thV
      try dsimp only
      go_wp2_with (fail)
      refine (rtop_none HR.out.hw (by have := HR3.out; rwa [hM0] at this)).mono ?_
      rintro e w4 ⟨rfl, hf4⟩
      have hf4' : Fr (rfoot p.br p.rv) (w2.alloc (.cells #[.int .i64 0, .int .i64 0] 52)) w4 := (hf4.mono (fun _ _ h => h.elim))
      have hnr : ¬ rfoot p.br p.rv w2.heap.size := fun hk => by
        obtain ⟨cs, hc | hc⟩ := HR3.out.foot_cells hk
        · exact ne_of_types HN2.out hc (by decide) rfl
        · exact ne_of_types HN2.out hc (by decide) rfl
      have hn4 := hf4'.get HN2.out hnr
      have hfb : Fr (fun _ => False) w4 (w4.alloc (.cells #[.int .i64 0, .int .i64 0] 52)) := (Fr.refl _ w4).alloc _
      have hn5 := hfb.get hn4 id
      have a0 := cell_is hn5 0 rfl
      have a1 := cell_is hn5 1 rfl
      have hm5 := heap_alloc_eq w4 (.cells #[.int .i64 0, .int .i64 0] 52)
      have b0 := cell_is hm5 0 rfl
      have b1 := cell_is hm5 1 rfl
      have HF4 := Lib.hid hf4'
      have HFB := Lib.hid hfb
      have HQ2 := Lib.hid hf4
      clear hf4' hfb hn4 hn5 hm5 hnr
      try unfold thV
      try dsimp only
      go_wp2_with (fail)
      go_ret
      exact ⟨rfl, _, _, _, _, _, _, _, _, (((HD.out.stay HQ1.out (Int.le_refl N)).stay HFA.out (Int.le_refl N)).stay HQ2.out (Int.le_refl N)).stay HFB.out (show N ≤ N + 1 by omega), h1⟩
    · obtain ⟨a, ha⟩ : ∃ a, p.L[0]? = some a := ⟨_, List.getElem?_eq_getElem (show 0 < p.L.length by have := HPL.out; omega)⟩
      have HA := Lib.hid ha
      clear ha
      obtain ⟨ta, ra, ma⟩ := a
      go_wp2_with (fail)
      refine (top_some HR.out.q HA.out).mono ?_
      rintro e w2 ⟨rfl, hf2⟩
      have hf2' : Fr (foot p.bh p.bm p.lv) wx w2 := (hf2.mono (fun _ _ h => h.elim))
      have hfa : Fr (fun _ => False) w2 (w2.alloc (.cells #[.int .i64 ra, .int .i64 ma] 52)) := (Fr.refl _ w2).alloc _
      have hn2 := heap_alloc_eq w2 (.cells #[.int .i64 ra, .int .i64 ma] 52)
      have hr3 : RRp (rfoot p.br p.rv) (w2.alloc (.cells #[.int .i64 ra, .int .i64 ma] 52)) p.br p.way p.g p.rv p.M := (HR.out.r.fr hf2' (fun k _ hk hk' => HR.out.dj k hk' hk)).fr hfa (fun _ _ _ h => h)
      have hp23 : Fr p.foot wx (w2.alloc (.cells #[.int .i64 ra, .int .i64 ma] 52)) := (hf2'.mono (fun k _ h => .inl h)).trans hfa (fun _ _ h => h.elim)
      obtain ⟨y2, _, _⟩ := HXX.out _ hp23
      have HF2 := Lib.hid hf2'
      have HQ1 := Lib.hid hf2
      have HFA := Lib.hid hfa
      have HN2 := Lib.hid hn2
      have HR3 := Lib.hid hr3
      have HP23 := Lib.hid hp23
      clear hf2' hfa hn2 hr3 hp23
      try unfold thV
      try dsimp only
      go_wp2_with (fail)
      refine (rtop_some HR.out.hw HR3.out (by omega) HR.out.sim.asc (by omega)).mono ?_
      rintro e w4 ⟨j, a4, rfl, ha4, hm4, hf4⟩
      obtain rfl := HR.out.sim.first HA.out ha4 hm4
      dsimp only
      have hf4' : Fr (rfoot p.br p.rv) (w2.alloc (.cells #[.int .i64 ra, .int .i64 ma] 52)) w4 := (hf4.mono (fun _ _ h => h.elim))
      have hnr : ¬ rfoot p.br p.rv w2.heap.size := fun hk => by
        obtain ⟨cs, hc | hc⟩ := HR3.out.foot_cells hk
        · exact ne_of_types HN2.out hc (by decide) rfl
        · exact ne_of_types HN2.out hc (by decide) rfl
      have hn4 := hf4'.get HN2.out hnr
      have hfb : Fr (fun _ => False) w4 (w4.alloc (.cells #[.int .i64 ra, .int .i64 ma] 52)) := (Fr.refl _ w4).alloc _
      have hn5 := hfb.get hn4 id
      have a0 := cell_is hn5 0 rfl
      have a1 := cell_is hn5 1 rfl
      have hm5 := heap_alloc_eq w4 (.cells #[.int .i64 ra, .int .i64 ma] 52)
      have b0 := cell_is hm5 0 rfl
      have b1 := cell_is hm5 1 rfl
      have HF4 := Lib.hid hf4'
      have HFB := Lib.hid hfb
      have HQ2 := Lib.hid hf4
      clear hf4' hfb hn4 hn5 hm5 hnr
      try unfold thV
      try dsimp only
      go_wp2_with (fail)
      go_ret
      exact ⟨rfl, _, _, _, _, _, _, _, _, (((HD.out.stay HQ1.out (Int.le_refl N)).stay HFA.out (Int.le_refl N)).stay HQ2.out (Int.le_refl N)).stay HFB.out (show N ≤ N + 1 by omega), h1⟩
  have n1 : (q == 1) = false := by simpa using e1
  by_cases e2 : q = 2
  · subst e2
    by_cases hM : p.M.length = 0
    · have hM0 : p.M = [] := List.eq_nil_of_length_eq_zero hM
      have hL0 : p.L = [] := List.eq_nil_of_length_eq_zero (by have := HPL.out; omega)
      have hq0 := HR.out.q
      rw [hL0] at hq0
      have HQ0 := Lib.hid hq0
      clear hq0
      go_wp2_with (fail)
      refine (pop_none HQ0.out).mono ?_
      rintro e w2 ⟨rfl, hf2⟩
      have hf2' : Fr (foot p.bh p.bm p.lv) wx w2 := (hf2.mono (fun _ _ h => h.elim))
      have hfa : Fr (fun _ => False) w2 (w2.alloc (.cells #[.int .i64 0, .int .i64 0] 52)) := (Fr.refl _ w2).alloc _
      have hn2 := heap_alloc_eq w2 (.cells #[.int .i64 0, .int .i64 0] 52)
      have hr3 : RRp (rfoot p.br p.rv) (w2.alloc (.cells #[.int .i64 0, .int .i64 0] 52)) p.br p.way p.g p.rv p.M := (HR.out.r.fr hf2' (fun k _ hk hk' => HR.out.dj k hk' hk)).fr hfa (fun _ _ _ h => h)
      have hp23 : Fr p.foot wx (w2.alloc (.cells #[.int .i64 0, .int .i64 0] 52)) := (hf2'.mono (fun k _ h => .inl h)).trans hfa (fun _ _ h => h.elim)
      obtain ⟨y2, _, _⟩ := HXX.out _ hp23
      have HF2 := Lib.hid hf2'
      have HQ1 := Lib.hid hf2
      have HFA := Lib.hid hfa
      have HN2 := Lib.hid hn2
      have HR3 := Lib.hid hr3
      have HP23 := Lib.hid hp23
      clear hf2' hfa hn2 hr3 hp23
      try unfold thV
      try dsimp only
      go_wp2_with (fail)
      refine (rpop_none HR.out.hw (by have := HR3.out; rwa [hM0] at this)).mono ?_
      rintro e w4 ⟨rfl, hf4⟩
      have hf4' : Fr (rfoot p.br p.rv) (w2.alloc (.cells #[.int .i64 0, .int .i64 0] 52)) w4 := (hf4.mono (fun _ _ h => h.elim))
      have hnr : ¬ rfoot p.br p.rv w2.heap.size := fun hk => by
        obtain ⟨cs, hc | hc⟩ := HR3.out.foot_cells hk
        · exact ne_of_types HN2.out hc (by decide) rfl
        · exact ne_of_types HN2.out hc (by decide) rfl
      have hn4 := hf4'.get HN2.out hnr
      have hfb : Fr (fun _ => False) w4 (w4.alloc (.cells #[.int .i64 0, .int .i64 0] 52)) := (Fr.refl _ w4).alloc _
      have hn5 := hfb.get hn4 id
      have a0 := cell_is hn5 0 rfl
      have a1 := cell_is hn5 1 rfl
      have hm5 := heap_alloc_eq w4 (.cells #[.int .i64 0, .int .i64 0] 52)
      have b0 := cell_is hm5 0 rfl
      have b1 := cell_is hm5 1 rfl
      have HF4 := Lib.hid hf4'
      have HFB := Lib.hid hfb
      have HQ2 := Lib.hid hf4
      clear hf4' hfb hn4 hn5 hm5 hnr
      try unfold thV
      try dsimp only
      go_wp2_with (fail)
      go_ret
      exact ⟨rfl, _, _, _, _, _, _, _, _, (((HD.out.stay HQ1.out (Int.le_refl N)).stay HFA.out (Int.le_refl N)).stay HQ2.out (Int.le_refl N)).stay HFB.out (show N ≤ N + 1 by omega), h1⟩
    · obtain ⟨a, ha⟩ : ∃ a, p.L[0]? = some a := ⟨_, List.getElem?_eq_getElem (show 0 < p.L.length by have := HPL.out; omega)⟩
      have HA := Lib.hid ha
      clear ha
      obtain ⟨ta, ra, ma⟩ := a
      go_wp2_with (fail)
      refine (pop_some HB.out HR.out.q HA.out (by have := HPL.out; omega) (fun _ _ => trivial) (c := 0) trivial (foot_lt HR.out.q) (fun k h => h.elim)).mono ?_
      rintro e w2 ⟨rfl, ⟨lv2, m2, hq2⟩, _, hf2⟩
      have hf2' : Fr (foot p.bh p.bm p.lv) wx w2 := (hf2.mono (fun _ _ h => h.elim id (fun h => h.elim)))
      have hfa : Fr (fun _ => False) w2 (w2.alloc (.cells #[.int .i64 ra, .int .i64 ma] 52)) := (Fr.refl _ w2).alloc _
      have hn2 := heap_alloc_eq w2 (.cells #[.int .i64 ra, .int .i64 ma] 52)
      have hr3 : RRp (rfoot p.br p.rv) (w2.alloc (.cells #[.int .i64 ra, .int .i64 ma] 52)) p.br p.way p.g p.rv p.M := (HR.out.r.fr hf2' (fun k _ hk hk' => HR.out.dj k hk' hk)).fr hfa (fun _ _ _ h => h)
      have hp23 : Fr p.foot wx (w2.alloc (.cells #[.int .i64 ra, .int .i64 ma] 52)) := (hf2'.mono (fun k _ h => .inl h)).trans hfa (fun _ _ h => h.elim)
      obtain ⟨y2, _, _⟩ := HXX.out _ hp23
      have HF2 := Lib.hid hf2'
      have HQ1 := Lib.hid hq2
      clear hq2
      have HFA := Lib.hid hfa
      have HN2 := Lib.hid hn2
      have HR3 := Lib.hid hr3
      have HP23 := Lib.hid hp23
      clear hf2' hfa hn2 hr3 hp23
      try unfold thV
      try dsimp only
      go_wp2_with (fail)
      refine (rpop_some HR.out.hw HR3.out (by omega) HR.out.sim.asc (by omega) HR3.out.foot_lt).mono ?_
      rintro e w4 ⟨j, a4, rfl, ha4, hm4, ⟨rv4, hr4⟩, hf4⟩
      obtain rfl := HR.out.sim.first HA.out ha4 hm4
      dsimp only
      have hf4' : Fr (rfoot p.br p.rv) (w2.alloc (.cells #[.int .i64 ra, .int .i64 ma] 52)) w4 := hf4
      have hnr : ¬ rfoot p.br p.rv w2.heap.size := fun hk => by
        obtain ⟨cs, hc | hc⟩ := HR3.out.foot_cells hk
        · exact ne_of_types HN2.out hc (by decide) rfl
        · exact ne_of_types HN2.out hc (by decide) rfl
      have hn4 := hf4'.get HN2.out hnr
      have hfb : Fr (fun _ => False) w4 (w4.alloc (.cells #[.int .i64 ra, .int .i64 ma] 52)) := (Fr.refl _ w4).alloc _
      have hn5 := hfb.get hn4 id
      have a0 := cell_is hn5 0 rfl
      have a1 := cell_is hn5 1 rfl
      have hm5 := heap_alloc_eq w4 (.cells #[.int .i64 ra, .int .i64 ma] 52)
      have b0 := cell_is hm5 0 rfl
      have b1 := cell_is hm5 1 rfl
      have HF4 := Lib.hid hf4'
      have HFB := Lib.hid hfb
      have HR4 := Lib.hid hr4
      clear hr4
      have HA4 := Lib.hid ha4
      clear ha4
      clear hf4' hfb hn4 hn5 hm5 hnr
      try unfold thV
      try dsimp only
      go_wp2_with (fail)
      go_ret
      obtain ⟨p', ht, hg', _⟩ := HR.out.turn (HQ1.out.mono (fun _ _ h => .inl h)) HF2.out HFA.out HR4.out HF4.out (HR.out.sim.erase HA.out HA4.out)
      exact ⟨rfl, _, _, _, _, _, _, _, _, HD.out.turn (N' := N + 1) HI.out (ht.none HFB.out) (by omega) (by omega), h1⟩
  have n2 : (q == 2) = false := by simpa using e2
  by_cases e3 : q = 3
  · subst e3
    by_cases ht : tk ∈ p.M.map Prod.fst
    · obtain ⟨us, vs, xx, ii, hMs, hus, hMj, hLi⟩ := HR.out.sim.present ht
      have HMS := Lib.hid hMs
      have HUS := Lib.hid hus
      have HMJ := Lib.hid hMj
      have HLI := Lib.hid hLi
      clear hMs hus hMj hLi ht
      obtain ⟨ra, ma⟩ := xx
      go_wp2_with (fail)
      refine (get_some (a := (tk, (ra, ma))) HR.out.q HLI.out).mono ?_
      rintro e w2 ⟨rfl, hf2⟩
      have hf2' : Fr (foot p.bh p.bm p.lv) wx w2 := (hf2.mono (fun _ _ h => h.elim))
      have hfa : Fr (fun _ => False) w2 (w2.alloc (.cells #[.int .i64 ra, .int .i64 ma] 52)) := (Fr.refl _ w2).alloc _
      have hn2 := heap_alloc_eq w2 (.cells #[.int .i64 ra, .int .i64 ma] 52)
      have hr3 : RRp (rfoot p.br p.rv) (w2.alloc (.cells #[.int .i64 ra, .int .i64 ma] 52)) p.br p.way p.g p.rv p.M := (HR.out.r.fr hf2' (fun k _ hk hk' => HR.out.dj k hk' hk)).fr hfa (fun _ _ _ h => h)
      have hp23 : Fr p.foot wx (w2.alloc (.cells #[.int .i64 ra, .int .i64 ma] 52)) := (hf2'.mono (fun k _ h => .inl h)).trans hfa (fun _ _ h => h.elim)
      obtain ⟨y2, _, _⟩ := HXX.out _ hp23
      have HF2 := Lib.hid hf2'
      have HQ1 := Lib.hid hf2
      have HFA := Lib.hid hfa
      have HN2 := Lib.hid hn2
      have HR3 := Lib.hid hr3
      have HP23 := Lib.hid hp23
      clear hf2' hfa hn2 hr3 hp23
      try unfold thV
      try dsimp only
      go_wp2_with (fail)
      refine (rget_some HR3.out (by omega) HMS.out HUS.out).mono ?_
      rintro e w4 ⟨rfl, hf4⟩
      have hf4' : Fr (rfoot p.br p.rv) (w2.alloc (.cells #[.int .i64 ra, .int .i64 ma] 52)) w4 := (hf4.mono (fun _ _ h => h.elim))
      have hnr : ¬ rfoot p.br p.rv w2.heap.size := fun hk => by
        obtain ⟨cs, hc | hc⟩ := HR3.out.foot_cells hk
        · exact ne_of_types HN2.out hc (by decide) rfl
        · exact ne_of_types HN2.out hc (by decide) rfl
      have hn4 := hf4'.get HN2.out hnr
      have hfb : Fr (fun _ => False) w4 (w4.alloc (.cells #[.int .i64 ra, .int .i64 ma] 52)) := (Fr.refl _ w4).alloc _
      have hn5 := hfb.get hn4 id
      have a0 := cell_is hn5 0 rfl
      have a1 := cell_is hn5 1 rfl
      have hm5 := heap_alloc_eq w4 (.cells #[.int .i64 ra, .int .i64 ma] 52)
      have b0 := cell_is hm5 0 rfl
      have b1 := cell_is hm5 1 rfl
      have HF4 := Lib.hid hf4'
      have HFB := Lib.hid hfb
      have HQ2 := Lib.hid hf4
      clear hf4' hfb hn4 hn5 hm5 hnr
      try unfold thV
      try dsimp only
      go_wp2_with (fail)
      go_ret
      exact ⟨rfl, _, _, _, _, _, _, _, _, (((HD.out.stay HQ1.out (Int.le_refl N)).stay HFA.out (Int.le_refl N)).stay HQ2.out (Int.le_refl N)).stay HFB.out (show N ≤ N + 1 by omega), h1⟩
    · obtain ⟨hal, ham⟩ := HR.out.sim.absent ht
      have HAL := Lib.hid hal
      have HAM := Lib.hid ham
      clear hal ham ht
      go_wp2_with (fail)
      refine (get_none HR.out.q HAL.out).mono ?_
      rintro e w2 ⟨rfl, hf2⟩
      have hf2' : Fr (foot p.bh p.bm p.lv) wx w2 := (hf2.mono (fun _ _ h => h.elim))
      have hfa : Fr (fun _ => False) w2 (w2.alloc (.cells #[.int .i64 0, .int .i64 0] 52)) := (Fr.refl _ w2).alloc _
      have hn2 := heap_alloc_eq w2 (.cells #[.int .i64 0, .int .i64 0] 52)
      have hr3 : RRp (rfoot p.br p.rv) (w2.alloc (.cells #[.int .i64 0, .int .i64 0] 52)) p.br p.way p.g p.rv p.M := (HR.out.r.fr hf2' (fun k _ hk hk' => HR.out.dj k hk' hk)).fr hfa (fun _ _ _ h => h)
      have hp23 : Fr p.foot wx (w2.alloc (.cells #[.int .i64 0, .int .i64 0] 52)) := (hf2'.mono (fun k _ h => .inl h)).trans hfa (fun _ _ h => h.elim)
      obtain ⟨y2, _, _⟩ := HXX.out _ hp23
      have HF2 := Lib.hid hf2'
      have HQ1 := Lib.hid hf2
      have HFA := Lib.hid hfa
      have HN2 := Lib.hid hn2
      have HR3 := Lib.hid hr3
      have HP23 := Lib.hid hp23
      clear hf2' hfa hn2 hr3 hp23
      try unfold thV
      try dsimp only
      go_wp2_with (fail)
      refine (rget_none HR3.out (by omega) HAM.out).mono ?_
      rintro e w4 ⟨rfl, hf4⟩
      have hf4' : Fr (rfoot p.br p.rv) (w2.alloc (.cells #[.int .i64 0, .int .i64 0] 52)) w4 := (hf4.mono (fun _ _ h => h.elim))
      have hnr : ¬ rfoot p.br p.rv w2.heap.size := fun hk => by
        obtain ⟨cs, hc | hc⟩ := HR3.out.foot_cells hk
        · exact ne_of_types HN2.out hc (by decide) rfl
        · exact ne_of_types HN2.out hc (by decide) rfl
      have hn4 := hf4'.get HN2.out hnr
      have hfb : Fr (fun _ => False) w4 (w4.alloc (.cells #[.int .i64 0, .int .i64 0] 52)) := (Fr.refl _ w4).alloc _
      have hn5 := hfb.get hn4 id
      have a0 := cell_is hn5 0 rfl
      have a1 := cell_is hn5 1 rfl
      have hm5 := heap_alloc_eq w4 (.cells #[.int .i64 0, .int .i64 0] 52)
      have b0 := cell_is hm5 0 rfl
      have b1 := cell_is hm5 1 rfl
      have HF4 := Lib.hid hf4'
      have HFB := Lib.hid hfb
      have HQ2 := Lib.hid hf4
      clear hf4' hfb hn4 hn5 hm5 hnr
      try unfold thV
      try dsimp only
      go_wp2_with (fail)
      go_ret
      exact ⟨rfl, _, _, _, _, _, _, _, _, (((HD.out.stay HQ1.out (Int.le_refl N)).stay HFA.out (Int.le_refl N)).stay HQ2.out (Int.le_refl N)).stay HFB.out (show N ≤ N + 1 by omega), h1⟩
  have n3 : (q == 3) = false := by simpa using e3
  by_cases e4 : q = 4
  · subst e4
    by_cases ht : tk ∈ p.M.map Prod.fst
    · obtain ⟨us, vs, xx, ii, hMs, hus, hMj, hLi⟩ := HR.out.sim.present ht
      have HMS := Lib.hid hMs
      have HUS := Lib.hid hus
      have HMJ := Lib.hid hMj
      have HLI := Lib.hid hLi
      clear hMs hus hMj hLi ht
      obtain ⟨ra, ma⟩ := xx
      go_wp2_with (fail)
      refine (remove_some HB.out (a := (tk, (ra, ma))) HR.out.q HLI.out (by have := HPL.out; omega) (fun _ _ => trivial) (c := 0) trivial (foot_lt HR.out.q) (fun k h => h.elim)).mono ?_
      rintro e w2 ⟨rfl, ⟨lv2, m2, hq2⟩, _, hf2⟩
      have hf2' : Fr (foot p.bh p.bm p.lv) wx w2 := (hf2.mono (fun _ _ h => h.elim id (fun h => h.elim)))
      have hfa : Fr (fun _ => False) w2 (w2.alloc (.cells #[.int .i64 ra, .int .i64 ma] 52)) := (Fr.refl _ w2).alloc _
      have hn2 := heap_alloc_eq w2 (.cells #[.int .i64 ra, .int .i64 ma] 52)
      have hr3 : RRp (rfoot p.br p.rv) (w2.alloc (.cells #[.int .i64 ra, .int .i64 ma] 52)) p.br p.way p.g p.rv p.M := (HR.out.r.fr hf2' (fun k _ hk hk' => HR.out.dj k hk' hk)).fr hfa (fun _ _ _ h => h)
      have hp23 : Fr p.foot wx (w2.alloc (.cells #[.int .i64 ra, .int .i64 ma] 52)) := (hf2'.mono (fun k _ h => .inl h)).trans hfa (fun _ _ h => h.elim)
      obtain ⟨y2, _, _⟩ := HXX.out _ hp23
      have HF2 := Lib.hid hf2'
      have HQ1 := Lib.hid hq2
      clear hq2
      have HFA := Lib.hid hfa
      have HN2 := Lib.hid hn2
      have HR3 := Lib.hid hr3
      have HP23 := Lib.hid hp23
      clear hf2' hfa hn2 hr3 hp23
      try unfold thV
      try dsimp only
      go_wp2_with (fail)
      refine (rremove_some HR3.out (by omega) HMS.out HUS.out HR3.out.foot_lt).mono ?_
      rintro e w4 ⟨rfl, ⟨rv4, hr4⟩, hf4⟩
      have hf4' : Fr (rfoot p.br p.rv) (w2.alloc (.cells #[.int .i64 ra, .int .i64 ma] 52)) w4 := hf4
      have hnr : ¬ rfoot p.br p.rv w2.heap.size := fun hk => by
        obtain ⟨cs, hc | hc⟩ := HR3.out.foot_cells hk
        · exact ne_of_types HN2.out hc (by decide) rfl
        · exact ne_of_types HN2.out hc (by decide) rfl
      have hn4 := hf4'.get HN2.out hnr
      have hfb : Fr (fun _ => False) w4 (w4.alloc (.cells #[.int .i64 ra, .int .i64 ma] 52)) := (Fr.refl _ w4).alloc _
      have hn5 := hfb.get hn4 id
      have a0 := cell_is hn5 0 rfl
      have a1 := cell_is hn5 1 rfl
      have hm5 := heap_alloc_eq w4 (.cells #[.int .i64 ra, .int .i64 ma] 52)
      have b0 := cell_is hm5 0 rfl
      have b1 := cell_is hm5 1 rfl
      have HF4 := Lib.hid hf4'
      have HFB := Lib.hid hfb
      have HR4 := Lib.hid hr4
      clear hr4
      clear hf4' hfb hn4 hn5 hm5 hnr
      try unfold thV
      try dsimp only
      go_wp2_with (fail)
      go_ret
      obtain ⟨p', ht, hg', _⟩ := HR.out.turn (HQ1.out.mono (fun _ _ h => .inl h)) HF2.out HFA.out HR4.out HF4.out (HR.out.sim.erase HLI.out HMJ.out)
      exact ⟨rfl, _, _, _, _, _, _, _, _, HD.out.turn (N' := N + 1) HI.out (ht.none HFB.out) (by omega) (by omega), h1⟩
    · obtain ⟨hal, ham⟩ := HR.out.sim.absent ht
      have HAL := Lib.hid hal
      have HAM := Lib.hid ham
      clear hal ham ht
      go_wp2_with (fail)
      refine (remove_none HR.out.q HAL.out).mono ?_
      rintro e w2 ⟨rfl, hf2⟩
      have hf2' : Fr (foot p.bh p.bm p.lv) wx w2 := (hf2.mono (fun _ _ h => h.elim))
      have hfa : Fr (fun _ => False) w2 (w2.alloc (.cells #[.int .i64 0, .int .i64 0] 52)) := (Fr.refl _ w2).alloc _
      have hn2 := heap_alloc_eq w2 (.cells #[.int .i64 0, .int .i64 0] 52)
      have hr3 : RRp (rfoot p.br p.rv) (w2.alloc (.cells #[.int .i64 0, .int .i64 0] 52)) p.br p.way p.g p.rv p.M := (HR.out.r.fr hf2' (fun k _ hk hk' => HR.out.dj k hk' hk)).fr hfa (fun _ _ _ h => h)
      have hp23 : Fr p.foot wx (w2.alloc (.cells #[.int .i64 0, .int .i64 0] 52)) := (hf2'.mono (fun k _ h => .inl h)).trans hfa (fun _ _ h => h.elim)
      obtain ⟨y2, _, _⟩ := HXX.out _ hp23
      have HF2 := Lib.hid hf2'
      have HQ1 := Lib.hid hf2
      have HFA := Lib.hid hfa
      have HN2 := Lib.hid hn2
      have HR3 := Lib.hid hr3
      have HP23 := Lib.hid hp23
      clear hf2' hfa hn2 hr3 hp23
      try unfold thV
      try dsimp only
      go_wp2_with (fail)
      refine (rremove_none HR3.out (by omega) HAM.out).mono ?_
      rintro e w4 ⟨rfl, hf4⟩
      have hf4' : Fr (rfoot p.br p.rv) (w2.alloc (.cells #[.int .i64 0, .int .i64 0] 52)) w4 := (hf4.mono (fun _ _ h => h.elim))
      have hnr : ¬ rfoot p.br p.rv w2.heap.size := fun hk => by
        obtain ⟨cs, hc | hc⟩ := HR3.out.foot_cells hk
        · exact ne_of_types HN2.out hc (by decide) rfl
        · exact ne_of_types HN2.out hc (by decide) rfl
      have hn4 := hf4'.get HN2.out hnr
      have hfb : Fr (fun _ => False) w4 (w4.alloc (.cells #[.int .i64 0, .int .i64 0] 52)) := (Fr.refl _ w4).alloc _
      have hn5 := hfb.get hn4 id
      have a0 := cell_is hn5 0 rfl
      have a1 := cell_is hn5 1 rfl
      have hm5 := heap_alloc_eq w4 (.cells #[.int .i64 0, .int .i64 0] 52)
      have b0 := cell_is hm5 0 rfl
      have b1 := cell_is hm5 1 rfl
      have HF4 := Lib.hid hf4'
      have HFB := Lib.hid hfb
      have HQ2 := Lib.hid hf4
      clear hf4' hfb hn4 hn5 hm5 hnr
      try unfold thV
      try dsimp only
      go_wp2_with (fail)
      go_ret
      exact ⟨rfl, _, _, _, _, _, _, _, _, (((HD.out.stay HQ1.out (Int.le_refl N)).stay HFA.out (Int.le_refl N)).stay HQ2.out (Int.le_refl N)).stay HFB.out (show N ≤ N + 1 by omega), h1⟩
  have n4 : (q == 4) = false := by simpa using e4
  by_cases e5 : q = 5
  · subst e5
    by_cases ht : tk ∈ p.M.map Prod.fst
    · obtain ⟨us, vs, xx, ii, hMs, hus, hMj, hLi⟩ := HR.out.sim.present ht
      have HMS := Lib.hid hMs
      have HUS := Lib.hid hus
      have HMJ := Lib.hid hMj
      have HLI := Lib.hid hLi
      clear hMs hus hMj hLi ht
      go_wp2_with (fail)
      refine wp_region_held_drew (S := fun w' => Fr p.foot wx w') (by kernel_rfl) ((Fr.refl _ wx).drew) (fun hS1 => ?_)
      refine wpAnyH_take (i := 0) (v := (.pointer (some ⟨p.bh, 0, none⟩))) rfl (by kernel_rfl) (by kernel_rfl) (by kernel_rfl) (fun _ _ _ h => h) (Or.inl ⟨by rfl, fun w' hS => by obtain ⟨r2, r3, r4⟩ := HXX.out w' hS; go_simp⟩) hS1 ?_
      try simp only [Act.put, List.getElem_toArray, List.getElem_cons_zero, List.setIfInBounds_toArray, List.set_cons_zero, List.set_cons_succ]
      refine wpAnyH_take (i := 1) (v := (.pointer (some ⟨b3, 2, none⟩))) rfl (by kernel_rfl) (by kernel_rfl) (by kernel_rfl) (fun _ _ _ h => h) (Or.inl ⟨by rfl, fun w' hS => by obtain ⟨r2, r3, r4⟩ := HXX.out w' hS; go_simp⟩) hS1 ?_
      try simp only [Act.put, List.getElem_toArray, List.getElem_cons_zero, List.getElem_cons_succ, List.setIfInBounds_toArray, List.set_cons_zero, List.set_cons_succ]
      refine wpAnyH_take (i := 2) (v := (.int .i64 tk)) rfl (by kernel_rfl) (by kernel_rfl) (by kernel_rfl) (fun _ _ _ h => h) (Or.inl ⟨by rfl, fun w' hS => by obtain ⟨r2, r3, r4⟩ := HXX.out w' hS; go_simp⟩) hS1 ?_
      try simp only [Act.put, List.getElem_toArray, List.getElem_cons_zero, List.getElem_cons_succ, List.setIfInBounds_toArray, List.set_cons_zero, List.set_cons_succ]
      refine wpAnyH_take (i := 3) (v := (.pointer (some ⟨b3, 3, none⟩))) rfl (by kernel_rfl) (by kernel_rfl) (by kernel_rfl) (fun _ _ _ h => h) (Or.inl ⟨by rfl, fun w' hS => by obtain ⟨r2, r3, r4⟩ := HXX.out w' hS; go_simp⟩) hS1 ?_
      try simp only [Act.put, List.getElem_toArray, List.getElem_cons_zero, List.getElem_cons_succ, List.setIfInBounds_toArray, List.set_cons_zero, List.set_cons_succ]
      refine wpAnyH_take (i := 4) (v := (.agg #[.int .i64 rx, .int .i64 mx])) rfl (by kernel_rfl) (by kernel_rfl) (by kernel_rfl) (fun _ _ _ h => h) (Or.inl ⟨by rfl, fun w' hS => by obtain ⟨r2, r3, r4⟩ := HXX.out w' hS; go_simp⟩) hS1 ?_
      try simp only [Act.put, List.getElem_toArray, List.getElem_cons_zero, List.getElem_cons_succ, List.setIfInBounds_toArray, List.set_cons_zero, List.set_cons_succ]
      refine wpAnyH_take (i := 6) (v := (.pointer (some ⟨p.br, 0, none⟩))) rfl (by kernel_rfl) (by kernel_rfl) (by kernel_rfl) (fun _ _ _ h => h) (Or.inl ⟨by rfl, fun w' hS => by obtain ⟨r2, r3, r4⟩ := HXX.out w' hS; go_simp⟩) hS1 ?_
      try simp only [Act.put, List.getElem_toArray, List.getElem_cons_zero, List.getElem_cons_succ, List.setIfInBounds_toArray, List.set_cons_zero, List.set_cons_succ]
      refine wpAnyH_take (i := 7) (v := (.pointer (some ⟨b3, 2, none⟩))) rfl (by kernel_rfl) (by kernel_rfl) (by kernel_rfl) (fun _ _ _ h => h) (Or.inl ⟨by rfl, fun w' hS => by obtain ⟨r2, r3, r4⟩ := HXX.out w' hS; go_simp⟩) hS1 ?_
      try simp only [Act.put, List.getElem_toArray, List.getElem_cons_zero, List.getElem_cons_succ, List.setIfInBounds_toArray, List.set_cons_zero, List.set_cons_succ]
      refine wpAnyH_take (i := 8) (v := (.int .i64 tk)) rfl (by kernel_rfl) (by kernel_rfl) (by kernel_rfl) (fun _ _ _ h => h) (Or.inl ⟨by rfl, fun w' hS => by obtain ⟨r2, r3, r4⟩ := HXX.out w' hS; go_simp⟩) hS1 ?_
      try simp only [Act.put, List.getElem_toArray, List.getElem_cons_zero, List.getElem_cons_succ, List.setIfInBounds_toArray, List.set_cons_zero, List.set_cons_succ]
      refine wpAnyH_take (i := 9) (v := (.pointer (some ⟨b3, 3, none⟩))) rfl (by kernel_rfl) (by kernel_rfl) (by kernel_rfl) (fun _ _ _ h => h) (Or.inl ⟨by rfl, fun w' hS => by obtain ⟨r2, r3, r4⟩ := HXX.out w' hS; go_simp⟩) hS1 ?_
      try simp only [Act.put, List.getElem_toArray, List.getElem_cons_zero, List.getElem_cons_succ, List.setIfInBounds_toArray, List.set_cons_zero, List.set_cons_succ]
      refine wpAnyH_take (i := 10) (v := (.agg #[.int .i64 rx, .int .i64 mx])) rfl (by kernel_rfl) (by kernel_rfl) (by kernel_rfl) (fun _ _ _ h => h) (Or.inl ⟨by rfl, fun w' hS => by obtain ⟨r2, r3, r4⟩ := HXX.out w' hS; go_simp⟩) hS1 ?_
      try simp only [Act.put, List.getElem_toArray, List.getElem_cons_zero, List.getElem_cons_succ, List.setIfInBounds_toArray, List.set_cons_zero, List.set_cons_succ]
      refine wpAnyH_ready (rs := [5]) (by kernel_rfl) (by simp) ?_
      refine AllReadyH.cons rfl (fun K hK => ?_) AllReadyH.nil
      rw [if_pos (by rfl)]
      go_simp
      have hR7 := HR.out.fr ((Fr.refl (fun _ => False) wx).drew) (fun _ _ h => h)
      refine (change_some HB.out (a := (tk, xx)) (rx, mx) hR7.q HLI.out (by have := HPL.out; omega) (fun _ _ => trivial) trivial (c := 0) trivial (fun k h => h.elim)).mono ?_
      rintro e w8 ⟨rfl, ⟨m8, hq8⟩, _, hf8⟩
      have hf8' : Fr (foot p.bh p.bm p.lv) wx.drew w8 := hf8.mono (fun k _ h => h.elim id (fun h => h.elim))
      have hr8 := hR7.r.fr hf8' (fun k _ hk hk' => hR7.dj k hk' hk)
      have hS9 : Fr p.foot wx w8 := ((Fr.refl p.foot wx).drew).trans hf8' (fun k _ hk => .inl hk)
      refine hK.out _ _ hS9 (fun hS9 => ?_)
      clear hK K hf8
      try simp only [Act.put, List.getElem_toArray, List.getElem_cons_zero, List.getElem_cons_succ, List.setIfInBounds_toArray, List.set_cons_zero, List.set_cons_succ]
      refine wpAnyH_ready (rs := [11]) (by kernel_rfl) (by simp) ?_
      refine AllReadyH.cons rfl (fun K hK => ?_) AllReadyH.nil
      rw [if_pos (by rfl)]
      go_simp
      refine (rchange_some (rx, mx) hr8 (by omega) HMS.out HUS.out).mono ?_
      rintro e w9 ⟨rfl, hr9, hf9⟩
      obtain ⟨p', ht, hg', _⟩ := hR7.turn (hq8.mono (fun _ _ h => .inl h)) hf8' (Fr.refl _ w8) (hr9.mono (fun _ _ h => .inl h)) hf9 (hR7.sim.set (rx, mx) HLI.out HMJ.out)
      have ht' := PTurn.ahead ((Fr.refl (fun _ => False) wx).drew) ht
      have HD9 := Lib.hid (HD.out.turn (N' := N + 1) HI.out ht' (by omega) (by omega))
      refine hK.out _ _ ht'.fr (fun hS10 => ?_)
      clear hK K hf8' hr8 hq8 hr9 hf9 ht ht' hR7
      try simp only [Act.put, List.getElem_toArray, List.getElem_cons_zero, List.getElem_cons_succ, List.setIfInBounds_toArray, List.set_cons_zero, List.set_cons_succ]
      refine wpAnyH_take (i := 12) (v := (.bool true)) rfl (by kernel_rfl) (by kernel_rfl) (by kernel_rfl) (fun _ _ _ h => h) (Or.inl ⟨by rfl, fun w' hS => by go_simp⟩) hS10 ?_
      try simp only [Act.put, List.getElem_toArray, List.getElem_cons_zero, List.getElem_cons_succ, List.setIfInBounds_toArray, List.set_cons_zero, List.set_cons_succ]
      refine wpAnyH_take (i := 13) (v := (.bool true)) rfl (by kernel_rfl) (by kernel_rfl) (by kernel_rfl) (fun _ _ _ h => h) (Or.inl ⟨by rfl, fun w' hS => by go_simp⟩) hS10 ?_
      try simp only [Act.put, List.getElem_toArray, List.getElem_cons_zero, List.getElem_cons_succ, List.setIfInBounds_toArray, List.set_cons_zero, List.set_cons_succ]
      refine wpAnyH_done (by kernel_rfl) ?_ _
      go_wp2_with (fail)
      go_ret
      exact ⟨rfl, _, _, _, _, _, _, _, _, HD9.out, h1⟩
    · obtain ⟨hal, ham⟩ := HR.out.sim.absent ht
      have HAL := Lib.hid hal
      have HAM := Lib.hid ham
      clear hal ham ht
      go_wp2_with (fail)
      refine wp_region_held_drew (S := fun w' => Fr p.foot wx w') (by kernel_rfl) ((Fr.refl _ wx).drew) (fun hS1 => ?_)
      refine wpAnyH_take (i := 0) (v := (.pointer (some ⟨p.bh, 0, none⟩))) rfl (by kernel_rfl) (by kernel_rfl) (by kernel_rfl) (fun _ _ _ h => h) (Or.inl ⟨by rfl, fun w' hS => by obtain ⟨r2, r3, r4⟩ := HXX.out w' hS; go_simp⟩) hS1 ?_
      try simp only [Act.put, List.getElem_toArray, List.getElem_cons_zero, List.setIfInBounds_toArray, List.set_cons_zero, List.set_cons_succ]
      refine wpAnyH_take (i := 1) (v := (.pointer (some ⟨b3, 2, none⟩))) rfl (by kernel_rfl) (by kernel_rfl) (by kernel_rfl) (fun _ _ _ h => h) (Or.inl ⟨by rfl, fun w' hS => by obtain ⟨r2, r3, r4⟩ := HXX.out w' hS; go_simp⟩) hS1 ?_
      try simp only [Act.put, List.getElem_toArray, List.getElem_cons_zero, List.getElem_cons_succ, List.setIfInBounds_toArray, List.set_cons_zero, List.set_cons_succ]
      refine wpAnyH_take (i := 2) (v := (.int .i64 tk)) rfl (by kernel_rfl) (by kernel_rfl) (by kernel_rfl) (fun _ _ _ h => h) (Or.inl ⟨by rfl, fun w' hS => by obtain ⟨r2, r3, r4⟩ := HXX.out w' hS; go_simp⟩) hS1 ?_
      try simp only [Act.put, List.getElem_toArray, List.getElem_cons_zero, List.getElem_cons_succ, List.setIfInBounds_toArray, List.set_cons_zero, List.set_cons_succ]
      refine wpAnyH_take (i := 3) (v := (.pointer (some ⟨b3, 3, none⟩))) rfl (by kernel_rfl) (by kernel_rfl) (by kernel_rfl) (fun _ _ _ h => h) (Or.inl ⟨by rfl, fun w' hS => by obtain ⟨r2, r3, r4⟩ := HXX.out w' hS; go_simp⟩) hS1 ?_
      try simp only [Act.put, List.getElem_toArray, List.getElem_cons_zero, List.getElem_cons_succ, List.setIfInBounds_toArray, List.set_cons_zero, List.set_cons_succ]
      refine wpAnyH_take (i := 4) (v := (.agg #[.int .i64 rx, .int .i64 mx])) rfl (by kernel_rfl) (by kernel_rfl) (by kernel_rfl) (fun _ _ _ h => h) (Or.inl ⟨by rfl, fun w' hS => by obtain ⟨r2, r3, r4⟩ := HXX.out w' hS; go_simp⟩) hS1 ?_
      try simp only [Act.put, List.getElem_toArray, List.getElem_cons_zero, List.getElem_cons_succ, List.setIfInBounds_toArray, List.set_cons_zero, List.set_cons_succ]
      refine wpAnyH_take (i := 6) (v := (.pointer (some ⟨p.br, 0, none⟩))) rfl (by kernel_rfl) (by kernel_rfl) (by kernel_rfl) (fun _ _ _ h => h) (Or.inl ⟨by rfl, fun w' hS => by obtain ⟨r2, r3, r4⟩ := HXX.out w' hS; go_simp⟩) hS1 ?_
      try simp only [Act.put, List.getElem_toArray, List.getElem_cons_zero, List.getElem_cons_succ, List.setIfInBounds_toArray, List.set_cons_zero, List.set_cons_succ]
      refine wpAnyH_take (i := 7) (v := (.pointer (some ⟨b3, 2, none⟩))) rfl (by kernel_rfl) (by kernel_rfl) (by kernel_rfl) (fun _ _ _ h => h) (Or.inl ⟨by rfl, fun w' hS => by obtain ⟨r2, r3, r4⟩ := HXX.out w' hS; go_simp⟩) hS1 ?_
      try simp only [Act.put, List.getElem_toArray, List.getElem_cons_zero, List.getElem_cons_succ, List.setIfInBounds_toArray, List.set_cons_zero, List.set_cons_succ]
      refine wpAnyH_take (i := 8) (v := (.int .i64 tk)) rfl (by kernel_rfl) (by kernel_rfl) (by kernel_rfl) (fun _ _ _ h => h) (Or.inl ⟨by rfl, fun w' hS => by obtain ⟨r2, r3, r4⟩ := HXX.out w' hS; go_simp⟩) hS1 ?_
      try simp only [Act.put, List.getElem_toArray, List.getElem_cons_zero, List.getElem_cons_succ, List.setIfInBounds_toArray, List.set_cons_zero, List.set_cons_succ]
      refine wpAnyH_take (i := 9) (v := (.pointer (some ⟨b3, 3, none⟩))) rfl (by kernel_rfl) (by kernel_rfl) (by kernel_rfl) (fun _ _ _ h => h) (Or.inl ⟨by rfl, fun w' hS => by obtain ⟨r2, r3, r4⟩ := HXX.out w' hS; go_simp⟩) hS1 ?_
      try simp only [Act.put, List.getElem_toArray, List.getElem_cons_zero, List.getElem_cons_succ, List.setIfInBounds_toArray, List.set_cons_zero, List.set_cons_succ]
      refine wpAnyH_take (i := 10) (v := (.agg #[.int .i64 rx, .int .i64 mx])) rfl (by kernel_rfl) (by kernel_rfl) (by kernel_rfl) (fun _ _ _ h => h) (Or.inl ⟨by rfl, fun w' hS => by obtain ⟨r2, r3, r4⟩ := HXX.out w' hS; go_simp⟩) hS1 ?_
      try simp only [Act.put, List.getElem_toArray, List.getElem_cons_zero, List.getElem_cons_succ, List.setIfInBounds_toArray, List.set_cons_zero, List.set_cons_succ]
      refine wpAnyH_ready (rs := [5]) (by kernel_rfl) (by simp) ?_
      refine AllReadyH.cons rfl (fun K hK => ?_) AllReadyH.nil
      rw [if_pos (by rfl)]
      go_simp
      have hR7 := HR.out.fr ((Fr.refl (fun _ => False) wx).drew) (fun _ _ h => h)
      refine (change_none (rx, mx) hR7.q HAL.out).mono ?_
      rintro e w8 ⟨rfl, hf8⟩
      have hr8 := hR7.r.fr hf8 (fun _ _ _ h => h)
      have hS9 : Fr p.foot wx w8 := ((Fr.refl p.foot wx).drew).trans hf8 (fun k _ hk => hk.elim)
      have HF8 := Lib.hid hf8
      refine hK.out _ _ hS9 (fun hS9 => ?_)
      clear hK K hf8
      try simp only [Act.put, List.getElem_toArray, List.getElem_cons_zero, List.getElem_cons_succ, List.setIfInBounds_toArray, List.set_cons_zero, List.set_cons_succ]
      refine wpAnyH_ready (rs := [11]) (by kernel_rfl) (by simp) ?_
      refine AllReadyH.cons rfl (fun K hK => ?_) AllReadyH.nil
      rw [if_pos (by rfl)]
      go_simp
      refine (rchange_none (rx, mx) hr8 (by omega) HAM.out).mono ?_
      rintro e w9 ⟨rfl, hf9⟩
      have hfx := (((Fr.refl (fun _ => False) wx).drew).trans HF8.out (fun _ _ h => h)).trans hf9 (fun _ _ h => h)
      have HD9 := Lib.hid (HD.out.stay hfx (show N ≤ N + 1 by omega))
      refine hK.out _ _ (hfx.mono (fun _ _ h => h.elim)) (fun hS10 => ?_)
      clear hK K hr8 hf9 hfx hR7
      try simp only [Act.put, List.getElem_toArray, List.getElem_cons_zero, List.getElem_cons_succ, List.setIfInBounds_toArray, List.set_cons_zero, List.set_cons_succ]
      refine wpAnyH_take (i := 12) (v := (.bool true)) rfl (by kernel_rfl) (by kernel_rfl) (by kernel_rfl) (fun _ _ _ h => h) (Or.inl ⟨by rfl, fun w' hS => by go_simp⟩) hS10 ?_
      try simp only [Act.put, List.getElem_toArray, List.getElem_cons_zero, List.getElem_cons_succ, List.setIfInBounds_toArray, List.set_cons_zero, List.set_cons_succ]
      refine wpAnyH_take (i := 13) (v := (.bool true)) rfl (by kernel_rfl) (by kernel_rfl) (by kernel_rfl) (fun _ _ _ h => h) (Or.inl ⟨by rfl, fun w' hS => by go_simp⟩) hS10 ?_
      try simp only [Act.put, List.getElem_toArray, List.getElem_cons_zero, List.getElem_cons_succ, List.setIfInBounds_toArray, List.set_cons_zero, List.set_cons_succ]
      refine wpAnyH_done (by kernel_rfl) ?_ _
      go_wp2_with (fail)
      go_ret
      exact ⟨rfl, _, _, _, _, _, _, _, _, HD9.out, h1⟩
  have n5 : (q == 5) = false := by simpa using e5
  by_cases e6 : q = 6
  · subst e6
    go_wp2_with (fail)
    refine (order_desk w0 wx bd P N _ _ vo vw ks E fr k HD.out hkl (by omega)).mono ?_
    rintro e w3 ⟨rfl, vo', vw', E', hd⟩
    have HD3 := Lib.hid hd
    clear hd
    go_wp2_with (fail)
    go_ret
    exact ⟨rfl, _, _, _, _, _, _, _, _, HD3.out, h1⟩
  have n6 : (q == 6) = false := by simpa using e6
  by_cases e7 : q = 7
  · subst e7
    go_wp2_with (fail)
    refine (len_any HR.out.q).mono ?_
    rintro e w3 ⟨rfl, rfl⟩
    rw [HPL.out]
    go_wp2_with (fail)
    refine (rlen_any HR.out.r).mono ?_
    rintro e w4 ⟨rfl, rfl⟩
    have HD9 := Lib.hid (HD.out.stay (Fr.refl _ wx) (show N ≤ N + 1 by omega))
    go_wp2_with (fail)
    go_ret
    exact ⟨rfl, _, _, _, _, _, _, _, _, HD9.out, h1⟩
  have n7 : (q == 7) = false := by simpa using e7
  by_cases e8 : q = 8
  · subst e8
    go_wp2_with (fail)
    refine (clone_desk w0 wx bd P N _ _ vo vw ks E fr k HD.out hkl (by omega) tk).mono ?_
    rintro e w3 ⟨rfl, P', av', bv', vo', vw', ks', E', fr', hd, h1'⟩
    have HD3 := Lib.hid (hd.stay (Fr.refl _ _) (show N ≤ N + 1 by omega))
    clear hd
    go_wp2_with (fail)
    go_ret
    exact ⟨rfl, _, _, _, _, _, _, _, _, HD3.out, h1'⟩
  have n8 : (q == 8) = false := by simpa using e8
  have HWR := Lib.hid (write_desk w0 wx bd P N _ _ vo vw ks E fr HD.out (by omega))
  go_wp2_with (fail)
  refine HWR.out.mono ?_
  rintro e w3 ⟨rfl, vo', vw', E', fr', hd⟩
  have HD3 := Lib.hid (hd.stay (Fr.refl _ _) (show N ≤ N + 1 by omega))
  clear hd
  go_wp2_with (fail)
  go_ret
  exact ⟨rfl, _, _, _, _, _, _, _, _, HD3.out, h1⟩

end Go.Proofs.Ytikimfdijkejpaa.HT
