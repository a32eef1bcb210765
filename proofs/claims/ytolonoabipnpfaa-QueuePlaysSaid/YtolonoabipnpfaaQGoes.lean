/- QueuePlays: what goes through a queue. -/
import Derived.Test.YtolonoabipnpfaaQDClone
namespace Go.Proofs.Ytolonoabipnpfaa
open Go.RowKit Go.Sb

theorem src_kc (w : World) (x : Nat × Nat × Nat) (n : Nat) (hn : n = w.heap.size) : Src (w.alloc (.cells #[.func (.func 43) #[] #[.pointer (some ⟨x.1, 0, none⟩)], .pointer (some ⟨x.2.2, 0, none⟩)] 116)) (.slice (some ⟨n, 0, none⟩) 1 1) 1 2 (kc x) := by
  subst hn
  refine ⟨rfl, ?_, .inr ⟨_, _, rfl, ?_⟩⟩
  · intro u hu
    simp only [kc, List.mem_cons, List.not_mem_nil, or_false] at hu
    rcases hu with rfl | rfl <;> rfl
  · intro j u hj
    have ha : (⟨w.heap.size, 0, none⟩ : Addr).add j = ⟨w.heap.size, j, none⟩ := by simp [Addr.add]; exact fun h => h.symm
    rw [ha, cell_of (heap_alloc_eq w _)]
    simpa [kc] using hj

theorem info116 : (Try.prog.info? 116).map (fun i => (i.zero, i.size, i.bytes)) = some (some (.agg #[.nilFunc, .pointer none]), 2, 16) := by kernel_rfl

theorem kc_at : ∀ (l : List (Nat × Nat × Nat)) (k : Nat) (x : Nat × Nat × Nat), l[k]? = some x → (l.flatMap kc)[k * 2]? = some (.func (.func 43) #[] #[.pointer (some ⟨x.1, 0, none⟩)]) ∧ (l.flatMap kc)[k * 2 + 1]? = some (.pointer (some ⟨x.2.2, 0, none⟩))
  | [], _, _, h => by simp at h
  | y :: _, 0, x, h => by
    simp at h
    subst h
    exact ⟨rfl, rfl⟩
  | y :: l, k + 1, x, h => by
    have ih := kc_at l k x (by simpa using h)
    rw [show (k + 1) * 2 = k * 2 + 1 + 1 by omega]
    exact ih

/-- another list of what is kept -/
theorem Desk.keep {w0 w a b c : World} {bd : Nat} {P : List Pr} {N N' : Int} {lv kv : Value} {ks : List (Nat × Nat)} {kk : List (Nat × Nat × Nat)} (h : Desk w0 w bd P N lv kv ks kk) (ha : Fr (fun _ => False) w a) (hf : Fr (fun k => kv.ownBlock = some k) a b) (hc : Fr (fun k => k = bd) b c)
    {kv' : Value} {kk' : List (Nat × Nat × Nat)} {y : Nat × Nat × Nat} (hh : c.heap[bd]? = some (.cells #[lv, kv'] 58 (0, 0))) (hk : OwnO 116 2 (ex (fun k => w0.heap.size ≤ k) a) b kv' kk'.length (kk'.flatMap kc)) (h5 : kk'.length ≤ 4) (hj : ∀ x ∈ kk', x ∈ kk ∨ x = y)
    (hy : y.2 ∈ P.map key ∧ w.heap[y.1]? = some (.cells #[.pointer (some ⟨y.2.1, 0, none⟩)] 45 (0, 0))) (hN : N ≤ N') : Desk w0 c bd P N' lv kv' ks kk' := by
  have H := h.stay ha (Int.le_refl N)
  have hab : Fr (fun k => kv.ownBlock = some k ∨ k = bd) a c := (hf.mono (fun k _ hk => .inl hk)).trans hc (fun k _ hk => .inr hk)
  have hno := owno_nez H.head (by decide) H.k
  have hb := hf.get H.head hno
  have h0 : w0.heap.size ≤ a.heap.size := H.fr.size
  refine H.lists hab ?_ ?_ hh ?_ ?_ H.ll h5 H.ks_in ?_ hN
  · rintro k (hk | rfl)
    · obtain ⟨_, cs, hc⟩ := H.k.block k hk
      exact ⟨cs, 116, hc, .inr (.inr rfl)⟩
    · exact ⟨_, 58, H.head, .inl rfl⟩
  · rintro k (hk | rfl)
    · exact (H.k.block k hk).1
    · exact H.gd
  · refine H.l.of (fun k hk hl => hab.block k hk ?_)
    obtain ⟨_, cs, hcs⟩ := own_block_cells H.l hl
    rintro (h | rfl)
    · obtain ⟨_, cs', hc'⟩ := H.k.block k h
      exact ne_of_types hcs hc' (by decide) rfl
    · exact ne_of_types hcs H.head (by decide) rfl
  · refine (hk.mono (fun k _ hk => hk.elim id (fun h => Nat.le_trans h0 h))).of (fun k hkl hkb => hc.block k hkl (fun e => ?_))
    exact owno_nez hb (by decide) hk (by rw [hkb, e])
  · intro x hx
    have hx' : x.2 ∈ P.map key ∧ a.heap[x.1]? = some (.cells #[.pointer (some ⟨x.2.1, 0, none⟩)] 45 (0, 0)) := by
      rcases hj x hx with h1 | rfl
      · exact H.kk_in x h1
      · exact ⟨hy.1, ha.get hy.2 id⟩
    refine ⟨hx'.1, hab.get hx'.2 ?_⟩
    rintro (h | h)
    · obtain ⟨_, cs', hc'⟩ := H.k.block _ h
      exact ne_of_types hx'.2 hc' (by decide) rfl
    · have hcx := hx'.2
      rw [h] at hcx
      exact ne_of_types hcx H.head (by decide) rfl

set_option maxRecDepth 100000 in
set_option maxHeartbeats 4000000 in
theorem goes_desk (w0 w : World) (bd : Nat) (P : List Pr) (N : Int) (lv kv : Value) (ks : List (Nat × Nat)) (kk : List (Nat × Nat × Nat)) (h : Desk w0 w bd P N lv kv ks kk) (h1 : 1 ≤ ks.length) (i : Nat) (p : Pr) (hi : P[i]? = some p) (hN : N < 4398046511104)
    (kd on n x : Int) (hn0 : -9223372036854775808 ≤ n) (hn1 : n ≤ 9223372036854775807) :
    Calls Try.prog 40 #[.pointer (some ⟨bd, 0, none⟩), .agg #[.pointer (some ⟨p.bq, 0, none⟩), .pointer (some ⟨p.br, 0, none⟩)], .agg #[.int .i64 kd, .int .i64 on, .int .i64 n, .int .i64 x]] w (DeskPost w0 bd (N + 1)) := by
  have hfn := fun w f x y => run_eql_func_nil (P := Try.prog) Try.underlying66 w f x y
  have f1 : Fr (fun _ => False) w ((w.alloc (.cells #[.pointer (some ⟨p.bq, 0, none⟩), .pointer (some ⟨p.br, 0, none⟩)] 60)).alloc (.cells #[.int .i64 kd, .int .i64 on, .int .i64 n, .int .i64 x] 63)) := ((Fr.refl _ w).alloc _).alloc _
  have hb4 : ((w.alloc (.cells #[.pointer (some ⟨p.bq, 0, none⟩), .pointer (some ⟨p.br, 0, none⟩)] 60)).alloc (.cells #[.int .i64 kd, .int .i64 on, .int .i64 n, .int .i64 x] 63)).heap[w.heap.size]? = some (.cells #[.pointer (some ⟨p.bq, 0, none⟩), .pointer (some ⟨p.br, 0, none⟩)] 60 (0, 0)) := (heap_alloc_lt _ _ _ (by simp)).trans (heap_alloc_eq _ _)
  have hb5 : ((w.alloc (.cells #[.pointer (some ⟨p.bq, 0, none⟩), .pointer (some ⟨p.br, 0, none⟩)] 60)).alloc (.cells #[.int .i64 kd, .int .i64 on, .int .i64 n, .int .i64 x] 63)).heap[w.heap.size + 1]? = some (.cells #[.int .i64 kd, .int .i64 on, .int .i64 n, .int .i64 x] 63 (0, 0)) := heap_alloc_n _ _ _ (by simp)
  have HD1 := Lib.hid (h.stay f1 (Int.le_refl N))
  have HB4 := Lib.hid hb4
  have HB5 := Lib.hid hb5
  have a0 : ((w.alloc (.cells #[.pointer (some ⟨p.bq, 0, none⟩), .pointer (some ⟨p.br, 0, none⟩)] 60)).alloc (.cells #[.int .i64 kd, .int .i64 on, .int .i64 n, .int .i64 x] 63)).cell? ⟨w.heap.size, 0, none⟩ = some (.pointer (some ⟨p.bq, 0, none⟩)) := cell_is hb4 0 rfl
  clear h f1 hb4 hb5
  go_enter Try.func40, Try.ntmps40
  go_wp2_with (fail)
  generalize hs0 : w.heap.size = b4 at *
  generalize hw1 : (w.alloc (.cells #[.pointer (some ⟨p.bq, 0, none⟩), .pointer (some ⟨p.br, 0, none⟩)] 60)).alloc (.cells #[.int .i64 kd, .int .i64 on, .int .i64 n, .int .i64 x] 63) = w1 at *
  clear hw1
  refine (QI.all_any p.bq w1).mono ?_
  rintro e w2 ⟨rfl, hw2⟩
  have f2 : Fr (fun _ => False) w1 w2 := by rw [hw2]; exact (Fr.refl _ w1).alloc _
  have HBN := Lib.hid (show w2.heap[w1.heap.size]? = some (.cells #[.pointer (some ⟨p.bq, 0, none⟩)] 45 (0, 0)) by rw [hw2]; exact heap_alloc_eq _ _)
  have HD2 := Lib.hid (HD1.out.stay f2 (Int.le_refl N))
  have HB42 := Lib.hid (f2.get HB4.out id)
  have HB52 := Lib.hid (f2.get HB5.out id)
  have hpg := HD1.out.bank.le i p hi
  have c1 : w2.cell? ⟨b4, 1, none⟩ = some (.pointer (some ⟨p.br, 0, none⟩)) := cell_is HB42.out 1 rfl
  have c50 : w2.cell? ⟨b4 + 1, 0, none⟩ = some (.int .i64 kd) := cell_is HB52.out 0 rfl
  have c52 : w2.cell? ⟨b4 + 1, 2, none⟩ = some (.int .i64 n) := cell_is HB52.out 2 rfl
  have c53 : w2.cell? ⟨b4 + 1, 3, none⟩ = some (.int .i64 x) := cell_is HB52.out 3 rfl
  have c40 : w2.cell? ⟨b4, 0, none⟩ = some (.pointer (some ⟨p.bq, 0, none⟩)) := cell_is HB42.out 0 rfl
  clear f2 hw2 HD1 HB4 HB5 a0
  generalize hBn : w1.heap.size = Bn at *
  have HP2 := Lib.hid (HD2.out.bank.rep i p hi)
  have hmul : ∀ k : Int, 0 ≤ k → k < 9 → IntKind.i64.wrap (1 + k) = 1 + k := fun k h1 h2 => by rw [IntKind.wrap_i64]; omega
  by_cases k6 : kd = 6
  · subst k6
    go_wp2_with (fail)
    refine wp_region_held_drew (S := fun w' => w'.cell? ⟨b4, 1, none⟩ = some (.pointer (some ⟨p.br, 0, none⟩)) ∧ w'.cell? ⟨b4 + 1, 2, none⟩ = some (.int .i64 n)) (by kernel_rfl) ⟨c1, c52⟩ (fun hS1 => ?_)
    refine wpAnyH_take (i := 0) (v := (.func (.func 43) #[] #[.pointer (some ⟨Bn, 0, none⟩)])) rfl (by kernel_rfl) (by kernel_rfl) (by kernel_rfl) (fun _ _ _ h => h) (Or.inl ⟨by rfl, fun w' hS => by obtain ⟨r0, r1⟩ := hS; go_simp⟩) hS1 ?_
    try simp only [Act.put, List.getElem_toArray, List.getElem_cons_zero, List.setIfInBounds_toArray, List.set_cons_zero, List.set_cons_succ]
    refine wpAnyH_take (i := 1) (v := (.pointer (some ⟨b4, 1, none⟩))) rfl (by kernel_rfl) (by kernel_rfl) (by kernel_rfl) (fun _ _ _ h => h) (Or.inl ⟨by rfl, fun w' hS => by obtain ⟨r0, r1⟩ := hS; go_simp⟩) hS1 ?_
    try simp only [Act.put, List.getElem_toArray, List.getElem_cons_zero, List.getElem_cons_succ, List.setIfInBounds_toArray, List.set_cons_zero, List.set_cons_succ]
    refine wpAnyH_take (i := 2) (v := (.pointer (some ⟨p.br, 0, none⟩))) rfl (by kernel_rfl) (by kernel_rfl) (by kernel_rfl) (fun _ _ _ h => h) (Or.inl ⟨by rfl, fun w' hS => by obtain ⟨r0, r1⟩ := hS; go_simp⟩) hS1 ?_
    try simp only [Act.put, List.getElem_toArray, List.getElem_cons_zero, List.getElem_cons_succ, List.setIfInBounds_toArray, List.set_cons_zero, List.set_cons_succ]
    refine wpAnyH_take (i := 3) (v := (.pointer (some ⟨b4 + 1, 2, none⟩))) rfl (by kernel_rfl) (by kernel_rfl) (by kernel_rfl) (fun _ _ _ h => h) (Or.inl ⟨by rfl, fun w' hS => by obtain ⟨r0, r1⟩ := hS; go_simp⟩) hS1 ?_
    try simp only [Act.put, List.getElem_toArray, List.getElem_cons_zero, List.getElem_cons_succ, List.setIfInBounds_toArray, List.set_cons_zero, List.set_cons_succ]
    refine wpAnyH_take (i := 4) (v := (.int .i64 n)) rfl (by kernel_rfl) (by kernel_rfl) (by kernel_rfl) (fun _ _ _ h => h) (Or.inl ⟨by rfl, fun w' hS => by obtain ⟨r0, r1⟩ := hS; go_simp⟩) hS1 ?_
    try simp only [Act.put, List.getElem_toArray, List.getElem_cons_zero, List.getElem_cons_succ, List.setIfInBounds_toArray, List.set_cons_zero, List.set_cons_succ]
    refine wpAnyH_ready (rs := [5]) (by kernel_rfl) (by simp) ?_
    refine AllReadyH.cons rfl (fun K hK => ?_) AllReadyH.nil
    rw [if_pos (by rfl)]
    go_simp
    refine (pick_any n 9 _ hn0 hn1 (by omega)).mono ?_
    rintro e w3 ⟨k, rfl, hk1, _, rfl⟩
    obtain ⟨hk2, hk3⟩ := hk1 (by omega)
    refine hK.out _ _ hS1 (fun hS2 => ?_)
    clear hK K hk1
    try simp only [Act.put, List.getElem_toArray, List.getElem_cons_zero, List.getElem_cons_succ, List.setIfInBounds_toArray, List.set_cons_zero, List.set_cons_succ]
    refine wpAnyH_take (i := 6) (v := (.int .i64 (1 + k))) rfl (by kernel_rfl) (by kernel_rfl) (by kernel_rfl) (fun _ _ _ h => h) (Or.inl ⟨by rfl, fun w' hS => by have hm := hmul k hk2 hk3; go_simp⟩) hS2 ?_
    try simp only [Act.put, List.getElem_toArray, List.getElem_cons_zero, List.getElem_cons_succ, List.setIfInBounds_toArray, List.set_cons_zero, List.set_cons_succ]
    refine wpAnyH_ready (rs := [7]) (by kernel_rfl) (by simp) ?_
    refine AllReadyH.cons rfl (fun K hK => ?_) AllReadyH.nil
    rw [if_pos (by rfl)]
    go_simp
    have f3 : Fr (fun _ => False) w2 w2.drew := (Fr.refl _ w2).drew
    refine (early_any w2.drew p Bn (1 + k) (HP2.out.fr f3 (fun _ _ h => h)) (by omega) HBN.out (by omega) (by omega)).mono ?_
    rintro e w4 ⟨rfl, hf4⟩
    have HF4 := Lib.hid (f3.trans hf4 (fun _ _ h => h))
    have d1 := cell_fr HF4.out c1 id
    refine hK.out _ _ ⟨d1, cell_fr HF4.out c52 id⟩ (fun hS3 => ?_)
    clear hK K f3 hf4
    try simp only [Act.put, List.getElem_toArray, List.getElem_cons_zero, List.getElem_cons_succ, List.setIfInBounds_toArray, List.set_cons_zero, List.set_cons_succ]
    refine wpAnyH_take (i := 8) (v := (.bool true)) rfl (by kernel_rfl) (by kernel_rfl) (by kernel_rfl) (fun _ _ _ h => h) (Or.inl ⟨by rfl, fun w' hS => by go_simp⟩) hS3 ?_
    try simp only [Act.put, List.getElem_toArray, List.getElem_cons_zero, List.getElem_cons_succ, List.setIfInBounds_toArray, List.set_cons_zero, List.set_cons_succ]
    refine wpAnyH_done (by kernel_rfl) ?_ _
    go_wp2_with (fail)
    refine (whole_any w4 p Bn (HP2.out.fr HF4.out (fun _ _ h => h)) (by omega) (HF4.out.get HBN.out id)).mono ?_
    rintro e w5 ⟨rfl, hf5⟩
    have HD5 := Lib.hid ((HD2.out.stay HF4.out (Int.le_refl N)).stay hf5 (show N ≤ N + 1 by omega))
    clear hf5
    go_wp2_with (fail)
    go_ret
    exact ⟨rfl, _, _, _, _, _, HD5.out, h1⟩
  have e6 : (kd == 6) = false := by simpa using k6
  by_cases k7 : kd = 7
  · subst k7
    go_wp2_with (fail)
    refine (while_any w2 p n x HP2.out (by omega) hn0 hn1).mono ?_
    rintro e w3 ⟨rfl, p', ht, hg⟩
    have HD3 := Lib.hid (HD2.out.turn (N' := N + 1) hi ht (by omega) (by omega))
    clear ht
    go_wp2_with (fail)
    go_ret
    exact ⟨rfl, _, _, _, _, _, HD3.out, h1⟩
  have e7 : (kd == 7) = false := by simpa using k7
  by_cases k8 : kd = 8
  · subst k8
    go_wp2_with (fail)
    refine (nested_any w2 p HP2.out (by omega)).mono ?_
    rintro e w3 ⟨rfl, hf3⟩
    have HD3 := Lib.hid (HD2.out.stay hf3 (show N ≤ N + 1 by omega))
    clear hf3
    go_wp2_with (fail)
    go_ret
    exact ⟨rfl, _, _, _, _, _, HD3.out, h1⟩
  have e8 : (kd == 8) = false := by simpa using k8
  by_cases k9 : kd = 9
  · subst k9
    obtain ⟨had, hcap, rfl, _⟩ := HD2.out.k.shape
    have d1 : w2.cell? ⟨bd, 1, none⟩ = some (.slice had kk.length hcap) := cell_is HD2.out.head 1 rfl
    have hkey : (p.bq, p.br) ∈ P.map key := List.mem_map.2 ⟨p, List.mem_of_getElem? hi, rfl⟩
    have HKEY := Lib.hid hkey
    have HDD := Lib.hid (HD2.out.stay ((Fr.refl (fun _ => False) w2).drew) (Int.le_refl N))
    have hbd := lt_of_heap HD2.out.head
    have hno := owno_nez HDD.out.head (by decide) HDD.out.k
    have hsrc := src_kc w2.drew (Bn, p.bq, p.br) w2.heap.size rfl
    have hoa : OwnO 116 2 (fun k => w0.heap.size ≤ k) (w2.drew.alloc (.cells #[.func (.func 43) #[] #[.pointer (some ⟨Bn, 0, none⟩)], .pointer (some ⟨p.br, 0, none⟩)] 116)) (.slice had kk.length hcap) kk.length (kk.flatMap kc) := HDD.out.k.of (fun k hk _ => heap_alloc_lt _ _ _ hk)
    have hkl := HD2.out.kl
    clear hkey
    go_wp2_with (fail)
    go_region_law (refine step_append_OwnO rfl _ _ 56 rfl 116 (.agg #[.nilFunc, .pointer none]) 2 16 Try.underlying56 info116 rfl (by decide) (.slice had kk.length hcap) kk.length (kk.flatMap kc) rfl hoa (.slice (some ⟨w2.drew.heap.size, 0, none⟩) 1 1) 1 (kc (Bn, p.bq, p.br)) rfl hsrc (by decide) (by unfold maxLen; omega) (by omega) ?_; intro v5 w5 hv5 hf5; have hh5 := hf5.get ((heap_alloc_lt _ _ _ (lt_of_heap HDD.out.head)).trans HDD.out.head) hno; have hc5 : w5.cell? ⟨bd, 1, none⟩ = some (.slice had kk.length hcap) := cell_is hh5 1 rfl; have hz5 := frozen_of hh5 1; obtain ⟨g5, o5, k5, rfl, hg5, _⟩ := hv5.at (by omega); have HV5 := Lib.hid hv5; have HF5 := Lib.hid hf5; have HH5 := Lib.hid hh5; clear hv5 hf5 hh5)
    all_goals
      have hset := heap_setCell_eq 1 (.slice (some ⟨g5, o5, none⟩) (kk.length + 1) k5) HH5.out
      simp only [List.setIfInBounds_toArray, List.set_cons_zero, List.set_cons_succ] at hset
      have HSET := Lib.hid hset
      have hra : Fr (fun _ => False) w2 (w2.drew.alloc (.cells #[.func (.func 43) #[] #[.pointer (some ⟨Bn, 0, none⟩)], .pointer (some ⟨p.br, 0, none⟩)] 116)) := ((Fr.refl (fun _ => False) w2).drew).alloc _
      have HRA := Lib.hid hra
      clear hset hra
      by_cases hlt : kk.length < 4
      · go_wp2_with (fail)
        go_ret
        refine ⟨rfl, _, _, _, _, _, HD2.out.keep (kk' := kk ++ [(Bn, p.bq, p.br)]) (y := (Bn, p.bq, p.br)) HRA.out HF5.out ((Fr.refl (fun k => k = bd) w5).setCell (p := ⟨bd, 1, none⟩) (.inl rfl) _) HSET.out (by rw [List.length_append, List.flatMap_append, List.flatMap_singleton]; exact HV5.out) (by simp; omega) (fun x hx => ?_) ⟨HKEY.out, HBN.out⟩ (show N ≤ N + 1 by omega), h1⟩
        simpa using hx
      · go_wp2_with (fail)
        go_ret
        have hset2 := heap_setCell_eq 1 (.slice (some ⟨g5, o5 + 2, none⟩) kk.length (k5 - 1)) HSET.out
        simp only [List.setIfInBounds_toArray, List.set_cons_zero, List.set_cons_succ] at hset2
        obtain ⟨y, kr, rfl⟩ : ∃ y kr, kk = y :: kr := by
          cases kk with
          | nil => simp at hlt
          | cons y kr => exact ⟨y, kr, rfl⟩
        refine ⟨rfl, _, _, _, _, _, HD2.out.keep (kk' := kr ++ [(Bn, p.bq, p.br)]) (y := (Bn, p.bq, p.br)) HRA.out HF5.out (((Fr.refl (fun k => k = bd) w5).setCell (p := ⟨bd, 1, none⟩) (.inl rfl) _).setCell (p := ⟨bd, 1, none⟩) (.inl rfl) _) hset2 ?_ (by simp at hkl ⊢; omega) (fun x hx => ?_) ⟨HKEY.out, HBN.out⟩ (show N ≤ N + 1 by omega), h1⟩
        · have ht := HV5.out.tail
          rw [List.length_append, List.flatMap_append, List.flatMap_singleton]
          exact ht
        · rcases List.mem_append.1 hx with hx | hx
          · exact .inl (List.mem_cons_of_mem _ hx)
          · exact .inr (by simpa using hx)
  have e9 : (kd == 9) = false := by simpa using k9
  by_cases k10 : kd = 10
  · subst k10
    by_cases hk0 : kk.length = 0
    · obtain ⟨ad, cap, rfl, _⟩ := HD2.out.k.shape
      have d1 : w2.cell? ⟨bd, 1, none⟩ = some (.slice ad kk.length cap) := cell_is HD2.out.head 1 rfl
      go_wp2_with (fail)
      go_ret
      exact ⟨rfl, _, _, _, _, _, HD2.out.stay (Fr.refl _ _) (show N ≤ N + 1 by omega), h1⟩
    · obtain ⟨g, off, cap, rfl, hcap, hmax, hcells⟩ := HD2.out.k.at (by omega)
      have d1 : w2.cell? ⟨bd, 1, none⟩ = some (.slice (some ⟨g, off, none⟩) kk.length cap) := cell_is HD2.out.head 1 rfl
      have hkl := HD2.out.kl
      have hgl : g < w2.heap.size := by
        obtain ⟨_, cs, hc⟩ := HD2.out.k.block g rfl
        exact lt_of_heap hc
      have hbd := lt_of_heap HD2.out.head
      have hb5 := lt_of_heap HB52.out
      have HC := Lib.hid hcells
      clear hcells
      go_wp2_with (fail)
      have HCC : Hid (∀ w', Fr (fun _ => False) w2 w' → w'.cell? ⟨bd, 1, none⟩ = some (.slice (some ⟨g, off, none⟩) kk.length cap) ∧ w'.cell? ⟨b4 + 1, 2, none⟩ = some (.int .i64 n) ∧ (∀ j u, (kk.flatMap kc)[j]? = some u → w'.cell? ⟨g, off + j, none⟩ = some u)) :=
        Lib.hid (fun w' hf => ⟨cell_fr hf d1 id, cell_fr hf c52 id, fun j u hu => cell_fr hf (HC.out j u hu) id⟩)
      refine wp_region_held_drew (S := fun w' => Fr (fun _ => False) w2 w') (by kernel_rfl) ((Fr.refl _ w2).drew) (fun hS1 => ?_)
      refine wpAnyH_take (i := 0) (v := (.pointer (some ⟨bd, 0, none⟩))) rfl (by kernel_rfl) (by kernel_rfl) (by kernel_rfl) (fun _ _ _ h => h) (Or.inl ⟨by rfl, fun w' hS => by obtain ⟨r0, r1, r2⟩ := HCC.out w' hS; go_simp⟩) hS1 ?_
      try simp only [Act.put, List.getElem_toArray, List.getElem_cons_zero, List.setIfInBounds_toArray, List.set_cons_zero, List.set_cons_succ]
      refine wpAnyH_take (i := 1) (v := (.pointer (some ⟨bd, 0, none⟩))) rfl (by kernel_rfl) (by kernel_rfl) (by kernel_rfl) (fun _ _ _ h => h) (Or.inl ⟨by rfl, fun w' hS => by obtain ⟨r0, r1, r2⟩ := HCC.out w' hS; go_simp⟩) hS1 ?_
      try simp only [Act.put, List.getElem_toArray, List.getElem_cons_zero, List.getElem_cons_succ, List.setIfInBounds_toArray, List.set_cons_zero, List.set_cons_succ]
      refine wpAnyH_take (i := 2) (v := (.pointer (some ⟨bd, 1, none⟩))) rfl (by kernel_rfl) (by kernel_rfl) (by kernel_rfl) (fun _ _ _ h => h) (Or.inl ⟨by rfl, fun w' hS => by obtain ⟨r0, r1, r2⟩ := HCC.out w' hS; go_simp⟩) hS1 ?_
      try simp only [Act.put, List.getElem_toArray, List.getElem_cons_zero, List.getElem_cons_succ, List.setIfInBounds_toArray, List.set_cons_zero, List.set_cons_succ]
      refine wpAnyH_take (i := 3) (v := (.slice (some ⟨g, off, none⟩) kk.length cap)) rfl (by kernel_rfl) (by kernel_rfl) (by kernel_rfl) (fun _ _ _ h => h) (Or.inl ⟨by rfl, fun w' hS => by obtain ⟨r0, r1, r2⟩ := HCC.out w' hS; go_simp⟩) hS1 ?_
      try simp only [Act.put, List.getElem_toArray, List.getElem_cons_zero, List.getElem_cons_succ, List.setIfInBounds_toArray, List.set_cons_zero, List.set_cons_succ]
      refine wpAnyH_take (i := 4) (v := (.pointer (some ⟨b4 + 1, 2, none⟩))) rfl (by kernel_rfl) (by kernel_rfl) (by kernel_rfl) (fun _ _ _ h => h) (Or.inl ⟨by rfl, fun w' hS => by obtain ⟨r0, r1, r2⟩ := HCC.out w' hS; go_simp⟩) hS1 ?_
      try simp only [Act.put, List.getElem_toArray, List.getElem_cons_zero, List.getElem_cons_succ, List.setIfInBounds_toArray, List.set_cons_zero, List.set_cons_succ]
      refine wpAnyH_take (i := 5) (v := (.int .i64 n)) rfl (by kernel_rfl) (by kernel_rfl) (by kernel_rfl) (fun _ _ _ h => h) (Or.inl ⟨by rfl, fun w' hS => by obtain ⟨r0, r1, r2⟩ := HCC.out w' hS; go_simp⟩) hS1 ?_
      try simp only [Act.put, List.getElem_toArray, List.getElem_cons_zero, List.getElem_cons_succ, List.setIfInBounds_toArray, List.set_cons_zero, List.set_cons_succ]
      refine wpAnyH_take (i := 6) (v := (.pointer (some ⟨bd, 0, none⟩))) rfl (by kernel_rfl) (by kernel_rfl) (by kernel_rfl) (fun _ _ _ h => h) (Or.inl ⟨by rfl, fun w' hS => by obtain ⟨r0, r1, r2⟩ := HCC.out w' hS; go_simp⟩) hS1 ?_
      try simp only [Act.put, List.getElem_toArray, List.getElem_cons_zero, List.getElem_cons_succ, List.setIfInBounds_toArray, List.set_cons_zero, List.set_cons_succ]
      refine wpAnyH_take (i := 7) (v := (.pointer (some ⟨bd, 0, none⟩))) rfl (by kernel_rfl) (by kernel_rfl) (by kernel_rfl) (fun _ _ _ h => h) (Or.inl ⟨by rfl, fun w' hS => by obtain ⟨r0, r1, r2⟩ := HCC.out w' hS; go_simp⟩) hS1 ?_
      try simp only [Act.put, List.getElem_toArray, List.getElem_cons_zero, List.getElem_cons_succ, List.setIfInBounds_toArray, List.set_cons_zero, List.set_cons_succ]
      refine wpAnyH_take (i := 8) (v := (.pointer (some ⟨bd, 1, none⟩))) rfl (by kernel_rfl) (by kernel_rfl) (by kernel_rfl) (fun _ _ _ h => h) (Or.inl ⟨by rfl, fun w' hS => by obtain ⟨r0, r1, r2⟩ := HCC.out w' hS; go_simp⟩) hS1 ?_
      try simp only [Act.put, List.getElem_toArray, List.getElem_cons_zero, List.getElem_cons_succ, List.setIfInBounds_toArray, List.set_cons_zero, List.set_cons_succ]
      refine wpAnyH_take (i := 9) (v := (.slice (some ⟨g, off, none⟩) kk.length cap)) rfl (by kernel_rfl) (by kernel_rfl) (by kernel_rfl) (fun _ _ _ h => h) (Or.inl ⟨by rfl, fun w' hS => by obtain ⟨r0, r1, r2⟩ := HCC.out w' hS; go_simp⟩) hS1 ?_
      try simp only [Act.put, List.getElem_toArray, List.getElem_cons_zero, List.getElem_cons_succ, List.setIfInBounds_toArray, List.set_cons_zero, List.set_cons_succ]
      refine wpAnyH_take (i := 10) (v := (.int .i64 (kk.length : Int))) rfl (by kernel_rfl) (by kernel_rfl) (by kernel_rfl) (fun _ _ _ h => h) (Or.inl ⟨by rfl, fun w' hS => by obtain ⟨r0, r1, r2⟩ := HCC.out w' hS; go_simp⟩) hS1 ?_
      try simp only [Act.put, List.getElem_toArray, List.getElem_cons_zero, List.getElem_cons_succ, List.setIfInBounds_toArray, List.set_cons_zero, List.set_cons_succ]
      refine wpAnyH_ready (rs := [11, 14]) (by kernel_rfl) (by simp) ?_
      refine AllReadyH.cons rfl (fun K hK => ?_) (AllReadyH.cons rfl (fun K hK => ?_) AllReadyH.nil)
      · rw [if_pos (by rfl)]
        go_simp
        refine (pick_any n (kk.length : Int) _ hn0 hn1 (by omega)).mono ?_
        rintro e w3 ⟨k0, rfl, hk1, _, rfl⟩
        obtain ⟨hk2, hk3⟩ := hk1 (by omega)
        obtain ⟨k, rfl⟩ := Int.eq_ofNat_of_zero_le hk2
        have hkl2 : k < kk.length := by omega
        obtain ⟨⟨bx, qx, rx⟩, hkx⟩ : ∃ y, kk[k]? = some y := ⟨_, List.getElem?_eq_getElem hkl2⟩
        obtain ⟨hx0, hx1⟩ := kc_at kk k _ hkx
        have HKX := Lib.hid hkx
        clear hk1 hk2 hkx
        refine hK.out _ _ hS1 (fun hS2 => ?_)
        clear hK K
        try simp only [Act.put, List.getElem_toArray, List.getElem_cons_zero, List.getElem_cons_succ, List.setIfInBounds_toArray, List.set_cons_zero, List.set_cons_succ]
        refine wpAnyH_take (i := 12) (v := (.pointer (some ⟨g, off + k * 2, none⟩))) rfl (by kernel_rfl) (by kernel_rfl) (by kernel_rfl) (fun _ _ _ h => h) (Or.inl ⟨by rfl, fun w' hS => by obtain ⟨r0, r1, r2⟩ := HCC.out w' hS; go_simp⟩) hS2 ?_
        try simp only [Act.put, List.getElem_toArray, List.getElem_cons_zero, List.getElem_cons_succ, List.setIfInBounds_toArray, List.set_cons_zero, List.set_cons_succ]
        refine wpAnyH_take (i := 13) (v := (.agg #[.func (.func 43) #[] #[.pointer (some ⟨bx, 0, none⟩)], .pointer (some ⟨rx, 0, none⟩)])) rfl (by kernel_rfl) (by kernel_rfl) (by kernel_rfl) (fun _ _ _ h => h) (Or.inl ⟨by rfl, fun w' hS => by obtain ⟨r0, r1, r2⟩ := HCC.out w' hS; have x0 := r2 _ _ hx0; have x1 := r2 _ _ hx1; rw [← Nat.add_assoc] at x1; go_simp⟩) hS2 ?_
        try simp only [Act.put, List.getElem_toArray, List.getElem_cons_zero, List.getElem_cons_succ, List.setIfInBounds_toArray, List.set_cons_zero, List.set_cons_succ]
        refine wpAnyH_ready (rs := [14]) (by kernel_rfl) (by simp) ?_
        refine AllReadyH.cons rfl (fun K hK => ?_) AllReadyH.nil
        rw [if_pos (by rfl)]
        go_simp
        have hf7 : Fr (fun _ => False) w2 (w2.alloc (.cells #[.nilFunc, .pointer none] 116)).drew := ((Fr.refl _ w2).alloc _).drew
        have hn7 : (w2.alloc (.cells #[.nilFunc, .pointer none] 116)).drew.heap[w2.heap.size]? = some (.cells #[.nilFunc, .pointer none] 116 (0, 0)) := heap_alloc_eq w2 _
        generalize (w2.alloc (.cells #[.nilFunc, .pointer none] 116)).drew = w7 at *
        have y0 : w7.cell? ⟨w2.heap.size, 0, none⟩ = some .nilFunc := cell_is hn7 0 rfl
        have y1 : w7.cell? ⟨w2.heap.size, 1, none⟩ = some (.pointer none) := cell_is hn7 1 rfl
        have z0 := frozen_of hn7 0
        have z1 := frozen_of hn7 1
        generalize hb9 : w2.heap.size = b9 at *
        refine hK.out _ _ hf7 (fun hS3 => ?_)
        clear hK K
        try simp only [Act.put, List.getElem_toArray, List.getElem_cons_zero, List.getElem_cons_succ, List.setIfInBounds_toArray, List.set_cons_zero, List.set_cons_succ]
        refine wpAnyH_ready (rs := [15]) (by kernel_rfl) (by simp) ?_
        refine AllReadyH.cons rfl (fun K hK => ?_) AllReadyH.nil
        rw [if_pos (by rfl)]
        go_simp
        have hf8 : Fr (fun _ => False) w2 ((w7.setCell ⟨b9, 0, none⟩ (.func (.func 43) #[] #[.pointer (some ⟨bx, 0, none⟩)])).setCell ⟨b9, 1, none⟩ (.pointer (some ⟨rx, 0, none⟩))) :=
          (hf7.setCell (p := ⟨b9, 0, none⟩) (.inr (Nat.le_of_eq hb9)) _).setCell (p := ⟨b9, 1, none⟩) (.inr (Nat.le_of_eq hb9)) _
        have hn8 := heap_setCell_eq 1 (.pointer (some ⟨rx, 0, none⟩)) (heap_setCell_eq 0 (.func (.func 43) #[] #[.pointer (some ⟨bx, 0, none⟩)]) hn7)
        simp only [List.setIfInBounds_toArray, List.set_cons_zero, List.set_cons_succ] at hn8
        refine hK.out _ _ hf8 (fun hS4 => ?_)
        clear hK K
        refine wpAnyH_done (by kernel_rfl) ?_ _
        generalize (w7.setCell ⟨b9, 0, none⟩ (.func (.func 43) #[] #[.pointer (some ⟨bx, 0, none⟩)])).setCell ⟨b9, 1, none⟩ (.pointer (some ⟨rx, 0, none⟩)) = w8 at *
        have v0 : w8.cell? ⟨b9, 0, none⟩ = some (.func (.func 43) #[] #[.pointer (some ⟨bx, 0, none⟩)]) := cell_is hn8 0 rfl
        have v1 : w8.cell? ⟨b9, 1, none⟩ = some (.pointer (some ⟨rx, 0, none⟩)) := cell_is hn8 1 rfl
        obtain ⟨hin, hbx⟩ := HD2.out.kk_in _ (List.mem_of_getElem? HKX.out)
        obtain ⟨j, q, hj, hq1, hq2⟩ := key_at hin
        have HF8 := Lib.hid hf8
        have HBX := Lib.hid hbx
        have HJ := Lib.hid hj
        have HQ := Lib.hid (And.intro hq1 hq2)
        clear y0 y1 z0 z1 hn7 hn8 hf7 hf8 hin hbx hj hq1 hq2
        go_wp2_with (fail)
        obtain ⟨hq1, hq2⟩ := HQ.out
        have hwh := whole_any w8 q bx ((HD2.out.bank.rep j q HJ.out).fr HF8.out (fun _ _ h => h)) (by have := HD2.out.bank.le j q HJ.out; omega) (by rw [hq1]; exact HF8.out.get HBX.out id)
        rw [hq2] at hwh
        refine hwh.mono ?_
        rintro e w9 ⟨rfl, hf9⟩
        have HD9 := Lib.hid ((HD2.out.stay HF8.out (Int.le_refl N)).stay hf9 (show N ≤ N + 1 by omega))
        clear hf9 hwh hq1 hq2
        go_wp2_with (fail)
        go_ret
        exact ⟨rfl, _, _, _, _, _, HD9.out, h1⟩
      · rw [if_pos (by rfl)]
        go_simp
        have hf7 : Fr (fun _ => False) w2 (w2.alloc (.cells #[.nilFunc, .pointer none] 116)).drew := ((Fr.refl _ w2).alloc _).drew
        have hn7 : (w2.alloc (.cells #[.nilFunc, .pointer none] 116)).drew.heap[w2.heap.size]? = some (.cells #[.nilFunc, .pointer none] 116 (0, 0)) := heap_alloc_eq w2 _
        generalize (w2.alloc (.cells #[.nilFunc, .pointer none] 116)).drew = w7 at *
        have y0 : w7.cell? ⟨w2.heap.size, 0, none⟩ = some .nilFunc := cell_is hn7 0 rfl
        have y1 : w7.cell? ⟨w2.heap.size, 1, none⟩ = some (.pointer none) := cell_is hn7 1 rfl
        have z0 := frozen_of hn7 0
        have z1 := frozen_of hn7 1
        generalize hb9 : w2.heap.size = b9 at *
        refine hK.out _ _ hf7 (fun hS2 => ?_)
        clear hK K
        try simp only [Act.put, List.getElem_toArray, List.getElem_cons_zero, List.getElem_cons_succ, List.setIfInBounds_toArray, List.set_cons_zero, List.set_cons_succ]
        refine wpAnyH_ready (rs := [11]) (by kernel_rfl) (by simp) ?_
        refine AllReadyH.cons rfl (fun K hK => ?_) AllReadyH.nil
        rw [if_pos (by rfl)]
        go_simp
        refine (pick_any n (kk.length : Int) _ hn0 hn1 (by omega)).mono ?_
        rintro e w3 ⟨k0, rfl, hk1, _, rfl⟩
        obtain ⟨hk2, hk3⟩ := hk1 (by omega)
        obtain ⟨k, rfl⟩ := Int.eq_ofNat_of_zero_le hk2
        have hkl2 : k < kk.length := by omega
        obtain ⟨⟨bx, qx, rx⟩, hkx⟩ : ∃ y, kk[k]? = some y := ⟨_, List.getElem?_eq_getElem hkl2⟩
        obtain ⟨hx0, hx1⟩ := kc_at kk k _ hkx
        have HKX := Lib.hid hkx
        clear hk1 hk2 hkx
        refine hK.out _ _ hS2 (fun hS3 => ?_)
        clear hK K
        try simp only [Act.put, List.getElem_toArray, List.getElem_cons_zero, List.getElem_cons_succ, List.setIfInBounds_toArray, List.set_cons_zero, List.set_cons_succ]
        refine wpAnyH_take (i := 12) (v := (.pointer (some ⟨g, off + k * 2, none⟩))) rfl (by kernel_rfl) (by kernel_rfl) (by kernel_rfl) (fun _ _ _ h => h) (Or.inl ⟨by rfl, fun w' hS => by obtain ⟨r0, r1, r2⟩ := HCC.out w' hS; go_simp⟩) hS3 ?_
        try simp only [Act.put, List.getElem_toArray, List.getElem_cons_zero, List.getElem_cons_succ, List.setIfInBounds_toArray, List.set_cons_zero, List.set_cons_succ]
        refine wpAnyH_take (i := 13) (v := (.agg #[.func (.func 43) #[] #[.pointer (some ⟨bx, 0, none⟩)], .pointer (some ⟨rx, 0, none⟩)])) rfl (by kernel_rfl) (by kernel_rfl) (by kernel_rfl) (fun _ _ _ h => h) (Or.inl ⟨by rfl, fun w' hS => by obtain ⟨r0, r1, r2⟩ := HCC.out w' hS; have x0 := r2 _ _ hx0; have x1 := r2 _ _ hx1; rw [← Nat.add_assoc] at x1; go_simp⟩) hS3 ?_
        try simp only [Act.put, List.getElem_toArray, List.getElem_cons_zero, List.getElem_cons_succ, List.setIfInBounds_toArray, List.set_cons_zero, List.set_cons_succ]
        refine wpAnyH_ready (rs := [15]) (by kernel_rfl) (by simp) ?_
        refine AllReadyH.cons rfl (fun K hK => ?_) AllReadyH.nil
        rw [if_pos (by rfl)]
        go_simp
        have hf8 : Fr (fun _ => False) w2 ((w7.setCell ⟨b9, 0, none⟩ (.func (.func 43) #[] #[.pointer (some ⟨bx, 0, none⟩)])).setCell ⟨b9, 1, none⟩ (.pointer (some ⟨rx, 0, none⟩))) :=
          (hf7.setCell (p := ⟨b9, 0, none⟩) (.inr (Nat.le_of_eq hb9)) _).setCell (p := ⟨b9, 1, none⟩) (.inr (Nat.le_of_eq hb9)) _
        have hn8 := heap_setCell_eq 1 (.pointer (some ⟨rx, 0, none⟩)) (heap_setCell_eq 0 (.func (.func 43) #[] #[.pointer (some ⟨bx, 0, none⟩)]) hn7)
        simp only [List.setIfInBounds_toArray, List.set_cons_zero, List.set_cons_succ] at hn8
        refine hK.out _ _ hf8 (fun hS4 => ?_)
        clear hK K
        refine wpAnyH_done (by kernel_rfl) ?_ _
        generalize (w7.setCell ⟨b9, 0, none⟩ (.func (.func 43) #[] #[.pointer (some ⟨bx, 0, none⟩)])).setCell ⟨b9, 1, none⟩ (.pointer (some ⟨rx, 0, none⟩)) = w8 at *
        have v0 : w8.cell? ⟨b9, 0, none⟩ = some (.func (.func 43) #[] #[.pointer (some ⟨bx, 0, none⟩)]) := cell_is hn8 0 rfl
        have v1 : w8.cell? ⟨b9, 1, none⟩ = some (.pointer (some ⟨rx, 0, none⟩)) := cell_is hn8 1 rfl
        obtain ⟨hin, hbx⟩ := HD2.out.kk_in _ (List.mem_of_getElem? HKX.out)
        obtain ⟨j, q, hj, hq1, hq2⟩ := key_at hin
        have HF8 := Lib.hid hf8
        have HBX := Lib.hid hbx
        have HJ := Lib.hid hj
        have HQ := Lib.hid (And.intro hq1 hq2)
        clear y0 y1 z0 z1 hn7 hn8 hf7 hf8 hin hbx hj hq1 hq2
        go_wp2_with (fail)
        obtain ⟨hq1, hq2⟩ := HQ.out
        have hwh := whole_any w8 q bx ((HD2.out.bank.rep j q HJ.out).fr HF8.out (fun _ _ h => h)) (by have := HD2.out.bank.le j q HJ.out; omega) (by rw [hq1]; exact HF8.out.get HBX.out id)
        rw [hq2] at hwh
        refine hwh.mono ?_
        rintro e w9 ⟨rfl, hf9⟩
        have HD9 := Lib.hid ((HD2.out.stay HF8.out (Int.le_refl N)).stay hf9 (show N ≤ N + 1 by omega))
        clear hf9 hwh hq1 hq2
        go_wp2_with (fail)
        go_ret
        exact ⟨rfl, _, _, _, _, _, HD9.out, h1⟩
  have e10 : (kd == 10) = false := by simpa using k10
  go_wp2_with (fail)
  go_ret
  exact ⟨rfl, _, _, _, _, _, HD2.out.stay (Fr.refl _ _) (show N ≤ N + 1 by omega), h1⟩

end Go.Proofs.Ytolonoabipnpfaa
