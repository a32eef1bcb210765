/- HeapScript: one heap more, or in the place of another. -/
import Derived.Test.YtikimfdijkejpaaHpDOrder
namespace Go.Proofs.Ytikimfdijkejpaa.HT
open Go.RowKit Go.Sb

/-- other lists of heaps -/
theorem Desk.lists {w0 w b : World} {bd : Nat} {P : List Pr} {N : Int} {av bv vo vw av' bv' : Value} {ks ks' : List (Nat × Nat)} {E : List Ent} {fr : Nat} {G : Nat → Prop} (h : Desk w0 w bd P N av bv vo vw ks E fr) (hf : Fr G w b) (hG : ∀ k, G k → k = bd ∨ av.ownBlock = some k ∨ bv.ownBlock = some k)
    (hh : b.heap[bd]? = some (.cells #[av', bv', vo, vw, .int .i64 (fr : Int)] 71 (0, 0))) (hal : Own 49 1 (fun k => w0.heap.size ≤ k) b av' ks'.length (ks'.map pa)) (hbl : Own 73 1 (fun k => w0.heap.size ≤ k) b bv' ks'.length (ks'.map pb)) (h4 : ks'.length ≤ 4) (hin : ∀ x ∈ ks', x ∈ P.map key) :
    Desk w0 b bd P N av' bv' vo vw ks' E fr := by
  have hhd : w.heap[bd]? = some (.cells #[av, bv, vo, vw, .int .i64 (fr : Int)] 71 (0, 0)) := h.held.rows.head
  have gk : ∀ k, G k → ∃ cs T, w.heap[k]? = some (.cells cs T (0, 0)) ∧ (T = 71 ∨ T = 49 ∨ T = 73) := fun k hk => by
    rcases hG k hk with rfl | hk | hk
    · exact ⟨_, 71, hhd, .inl rfl⟩
    · obtain ⟨cs, hc⟩ := own_kind h.al hk
      exact ⟨cs, 49, hc, .inr (.inl rfl)⟩
    · obtain ⟨cs, hc⟩ := own_kind h.bl hk
      exact ⟨cs, 73, hc, .inr (.inr rfl)⟩
  have ne : ∀ {T : TypeId} {k : Nat} {cs : Array Value}, w.heap[k]? = some (.cells cs T (0, 0)) → T ≠ 71 → T ≠ 49 → T ≠ 73 → ¬ G k := fun hc h1 h2 h3 hk => by
    obtain ⟨cs', T', hc', hT⟩ := gk _ hk
    rcases hT with rfl | rfl | rfl
    · exact ne_of_types hc hc' h1 rfl
    · exact ne_of_types hc hc' h2 rfl
    · exact ne_of_types hc hc' h3 rfl
  refine ⟨h.bank.fr hf (fun i p hi k hk hk' => ?_) (Int.le_refl N), ⟨⟨hh, .inl (.inl rfl), h.held.rows.outs.of (fun k hk hb => ?_), h.held.rows.wants.of (fun k hk hb => ?_), h.held.rows.apart⟩, h.held.pile.of (fun k cs _ hc => hf.block k (lt_of_heap hc) (ne hc (by decide) (by decide) (by decide)))⟩, h.ge, hal, hbl, h4, hin, h.frm.trans hf (fun k hk hg => ?_), h.lim, h.fle, h.pot⟩
  · obtain ⟨cs, T, hc, hT⟩ := gk k hk'
    rcases hT with rfl | rfl | rfl <;> exact (h.bank.rep i p hi).not hc (by decide) (by decide) (by decide) (by decide) hk
  · obtain ⟨cs, hc⟩ := own_kind h.held.rows.outs hb
    exact hf.block k hk (ne hc (by decide) (by decide) (by decide))
  · obtain ⟨cs, hc⟩ := own_kind h.held.rows.wants hb
    exact hf.block k hk (ne hc (by decide) (by decide) (by decide))
  · rcases hG k hg with rfl | hk' | hk'
    · have := h.ge k (.inl (.inl rfl)); omega
    · have := (h.al.block k hk').1; omega
    · have := (h.bl.block k hk').1; omega

theorem infoA : (Try.prog.info? 49).map (fun i => (i.zero, i.size, i.bytes)) = some (some (.pointer none), 1, 8) := by kernel_rfl
theorem infoB : (Try.prog.info? 73).map (fun i => (i.zero, i.size, i.bytes)) = some (some (.pointer none), 1, 8) := by kernel_rfl

/-- a clone of a pair -/
theorem PRep.cloned {w w1 w2 : World} {p : Pr} (h : PRep w p) {bc bmc bc2 : Nat} {lv' rv' : Value} (hq : HRep 99 101 3 (fun k => w.heap.size ≤ k) w1 bc (.func (.func (wFid p.way)) #[] #[]) p.g (p.L.map en) lv' bmc p.m) (hf1 : Fr (fun _ => False) w w1)
    (hr : RRp (fun k => w1.heap.size ≤ k) w2 bc2 p.way p.g rv' p.M) (hf2 : Fr (fun _ => False) w1 w2) : PRep w2 ⟨p.way, bc, bmc, lv', p.m, bc2, rv', p.g, p.L, p.M⟩ ∧ ∀ k, Pr.foot ⟨p.way, bc, bmc, lv', p.m, bc2, rv', p.g, p.L, p.M⟩ k → w.heap.size ≤ k := by
  refine ⟨⟨h.hw, (hrep_exact hq).fr hf2 (fun _ _ _ h => h), hr.exact, h.sim⟩, ?_⟩
  rintro k (hk | hk)
  · exact foot_in hq k hk
  · exact Nat.le_trans hf1.size (hr.foot_in k hk)

set_option maxRecDepth 100000 in
set_option maxHeartbeats 4000000 in
theorem clone_desk (w0 w : World) (bd : Nat) (P : List Pr) (N : Int) (av bv vo vw : Value) (ks : List (Nat × Nat)) (E : List Ent) (fr k : Nat) (h : Desk w0 w bd P N av bv vo vw ks E fr) (hk : k < ks.length) (hN : N ≤ 4398046511103) (tt : Int) :
    Calls Try.prog 63 #[.pointer (some ⟨bd, 0, none⟩), .int .i64 (k : Int), .int .i64 tt] w (DeskPost w0 bd N) := by
  obtain ⟨ga, ca, rfl, _, _⟩ := Go.Sb.Own.some h.al (by omega)
  obtain ⟨gb, cb, rfl, _, _⟩ := Go.Sb.Own.some h.bl (by omega)
  have hx : ks[k]? = some ks[k] := List.getElem?_eq_getElem hk
  obtain ⟨i, p, hi, hp1, hp2⟩ := key_at (h.ks_in _ (List.mem_of_getElem? hx))
  have hhd : w.heap[bd]? = some (.cells #[.slice (some ⟨ga, 0, none⟩) ks.length ca, .slice (some ⟨gb, 0, none⟩) ks.length cb, vo, vw, .int .i64 (fr : Int)] 71 (0, 0)) := h.held.rows.head
  have c0 : w.cell? ⟨bd, 0, none⟩ = some (.slice (some ⟨ga, 0, none⟩) ks.length ca) := cell_is hhd 0 rfl
  have ca0 := pa_at h.al hx
  rw [← hp1] at ca0
  have HX := Lib.hid hx
  have HP := Lib.hid (And.intro hp1 hp2)
  have HR := Lib.hid (h.bank.rep i p hi)
  have hpg := h.bank.le i p hi
  have hpl := HR.out.sim.len
  have HPL := Lib.hid HR.out.sim.lenL
  have hks := h.ll
  have H := Lib.hid h
  clear h hi hp1 hp2 hhd hx
  go_enter Try.func63, Try.ntmps63
  go_wp2_with (fail)
  refine (clone_any HR.out.q (by have := HPL.out; omega)).mono ?_
  rintro e w1 ⟨bc, bmc, lv', rfl, hq1, hf1⟩
  have HQ1 := Lib.hid hq1
  have HF1 := Lib.hid hf1
  have H1 := Lib.hid (H.out.stay hf1 (Int.le_refl N))
  have hhd1 : w1.heap[bd]? = some (.cells #[.slice (some ⟨ga, 0, none⟩) ks.length ca, .slice (some ⟨gb, 0, none⟩) ks.length cb, vo, vw, .int .i64 (fr : Int)] 71 (0, 0)) := H1.out.held.rows.head
  have d1 : w1.cell? ⟨bd, 1, none⟩ = some (.slice (some ⟨gb, 0, none⟩) ks.length cb) := cell_is hhd1 1 rfl
  have cb0 := pb_at H1.out.bl HX.out
  rw [← HP.out.2] at cb0
  have HR1 := Lib.hid (HR.out.fr hf1 (fun _ _ h => h))
  clear hq1 hf1 hhd1
  go_wp2_with (fail)
  refine (rclone_any HR1.out.r (by omega)).mono ?_
  rintro e w2 ⟨bc2, rv', rfl, hr2, hf2⟩
  obtain ⟨hpn, hfn⟩ := HR.out.cloned HQ1.out HF1.out hr2 hf2
  have HD2 := Lib.hid (H.out.more (HF1.out.trans hf2 (fun _ _ h => h)) hpn hpg hfn)
  have hkey : (bc, bc2) ∈ (P ++ [(⟨p.way, bc, bmc, lv', p.m, bc2, rv', p.g, p.L, p.M⟩ : Pr)]).map key := by simp [key]
  have HKEY := Lib.hid hkey
  clear hr2 hf2 hpn hfn hkey d1 cb0 c0 ca0
  have hhd2 : w2.heap[bd]? = some (.cells #[.slice (some ⟨ga, 0, none⟩) ks.length ca, .slice (some ⟨gb, 0, none⟩) ks.length cb, vo, vw, .int .i64 (fr : Int)] 71 (0, 0)) := HD2.out.held.rows.head
  have e0 : w2.cell? ⟨bd, 0, none⟩ = some (.slice (some ⟨ga, 0, none⟩) ks.length ca) := cell_is hhd2 0 rfl
  have e1 : w2.cell? ⟨bd, 1, none⟩ = some (.slice (some ⟨gb, 0, none⟩) ks.length cb) := cell_is hhd2 1 rfl
  have hlt2 := lt_of_heap hhd2
  have HH2 := Lib.hid hhd2
  clear hhd2
  by_cases hlt : ks.length < 4
  · have hF : ∀ k, w2.heap.size ≤ k → w0.heap.size ≤ k := fun k hk => Nat.le_trans HD2.out.frm.size hk
    have hno := Go.Sb.own_ne (R := 49) HH2.out (by decide) HD2.out.al
    go_wp2_with (first
      | (at_builtin; refine wpList_append_Own _ rfl _ _ 65 rfl 49 (.pointer none) 1 8 Try.underlying65 infoA rfl (by decide) (.slice (some ⟨ga, 0, none⟩) ks.length ca) ks.length (ks.map pa) rfl (HD2.out.al.alloc _) (.slice (some ⟨w2.heap.size, 0, none⟩) 1 1) 1 [.pointer (some ⟨bc, 0, none⟩)] rfl (src_val w2 (.pointer (some ⟨bc, 0, none⟩)) 49 rfl) (by unfold maxLen; omega) (by omega) ?_; intro v3 w3 hv3 hf3 hn3 hd3; have hh3 : w3.heap[bd]? = some (.cells #[.slice (some ⟨ga, 0, none⟩) ks.length ca, .slice (some ⟨gb, 0, none⟩) ks.length cb, vo, vw, .int .i64 (fr : Int)] 71 (0, 0)) := hf3.get ((heap_alloc_lt _ _ _ hlt2).trans HH2.out) hno; have hc3 : w3.cell? ⟨bd, 0, none⟩ = some (.slice (some ⟨ga, 0, none⟩) ks.length ca) := cell_is hh3 0 rfl; have hz3 := frozen_of hh3 0; have hc4 : w3.cell? ⟨bd, 1, none⟩ = some (.slice (some ⟨gb, 0, none⟩) ks.length cb) := cell_is hh3 1 rfl; obtain ⟨g3, k3, rfl, _, _⟩ := hv3.some (by omega); have HXX := Lib.hid (row_grown (j := 0) HH2.out (by decide) HD2.out.al (Own.nil 49 1 (fun k => w0.heap.size ≤ k) w2) (fun k _ h2 => by cases h2) hF hv3 hf3 hd3); have hsx := HXX.out.2.2.2.2.size; have HB4 := Lib.hid (HD2.out.bl.of (fun k hk hb => HXX.out.2.2.2.2.block k hk (fun h => h.elim (fun e => Go.Sb.own_ne HH2.out (by decide) HD2.out.bl (by rw [hb, e])) (fun e => by obtain ⟨cs, hc⟩ := own_kind HD2.out.bl hb; obtain ⟨cs', hc'⟩ := own_kind HD2.out.al e; exact ne_of_types hc hc' (by decide) rfl)))); clear hv3 hf3 hn3 hd3 hh3)
      | (at_builtin; refine wpList_append_Own _ rfl _ _ 66 rfl 73 (.pointer none) 1 8 Try.underlying66 infoB rfl (by decide) (.slice (some ⟨gb, 0, none⟩) ks.length cb) ks.length (ks.map pb) rfl (HB4.out.alloc _) (.slice (some ⟨w3.heap.size, 0, none⟩) 1 1) 1 [.pointer (some ⟨bc2, 0, none⟩)] rfl (by simpa using src_val (w3.setCell ⟨bd, 0, none⟩ (.slice (some ⟨g3, 0, none⟩) (ks.length + 1) k3)) (.pointer (some ⟨bc2, 0, none⟩)) 73 rfl) (by unfold maxLen; omega) (by omega) ?_; intro v5 w5 hv5 hf5 hn5 hd5; have hno5 := Go.Sb.own_ne HXX.out.1 (by decide) HB4.out; have hh5 := hf5.get ((heap_alloc_lt _ _ _ (lt_of_heap HXX.out.1)).trans HXX.out.1) hno5; have hc5 : w5.cell? ⟨bd, 1, none⟩ = some (.slice (some ⟨gb, 0, none⟩) ks.length cb) := cell_is hh5 1 rfl; have hz5 := frozen_of hh5 1; obtain ⟨g5, k5, rfl, _, _⟩ := hv5.some (by omega); have HYY := Lib.hid (row_grown (j := 1) HXX.out.1 (by decide) HB4.out (Own.nil 73 1 (fun k => w0.heap.size ≤ k) _) (fun k _ h2 => by cases h2) (fun k hk => hF k (Nat.le_trans hsx hk)) hv5 hf5 hd5); clear hv5 hf5 hn5 hd5 hh5))
    go_ret
    obtain ⟨x1, x2, _, _, x5⟩ := HXX.out
    obtain ⟨y1, y2, _, _, y5⟩ := HYY.out
    have hfr : Fr (fun k => k = bd ∨ (Value.slice (some ⟨ga, 0, none⟩) ks.length ca).ownBlock = some k ∨ (Value.slice (some ⟨gb, 0, none⟩) ks.length cb).ownBlock = some k) w2 _ := (x5.mono (fun k _ hk => hk.imp id .inl)).trans y5 (fun k _ hk => hk.imp id .inr)
    refine ⟨rfl, _, _, _, _, _, ks ++ [(bc, bc2)], E, fr, HD2.out.lists hfr (fun k hk => hk) y1 ?_ ?_ (by simp; omega) ?_, by simp⟩
    · rw [List.length_append, List.map_append]
      refine Own.of x2 (fun k hk hb => y5.block k hk (fun h => h.elim (fun e => ?_) (fun e => ?_)))
      · rw [e] at hb
        exact Go.Sb.own_ne x1 (by decide) x2 hb
      · obtain ⟨cs, hc⟩ := own_kind x2 hb
        obtain ⟨cs', hc'⟩ := own_kind HB4.out e
        exact ne_of_types hc hc' (by decide) rfl
    · rw [List.length_append, List.map_append]
      exact y2
    · intro y hy
      rcases List.mem_append.1 hy with hy | hy
      · exact HD2.out.ks_in y hy
      · rw [List.mem_singleton] at hy
        rw [hy]
        exact HKEY.out
  · go_wp2_with (fail)
    refine (among_any tt 4 _ (by decide) (by decide)).mono ?_
    rintro e w3 ⟨rfl, rfl⟩
    have ht0 : 0 ≤ tt % 4 := Int.emod_nonneg _ (by decide)
    have ht1 : tt % 4 < 4 := Int.emod_lt_of_pos _ (by decide)
    obtain ⟨j, hj⟩ := Int.eq_ofNat_of_zero_le ht0
    rw [hj] at ht1 ⊢
    clear ht0 hj
    have hjl : j < ks.length := by omega
    have hjx : ks[j]? = some ks[j] := List.getElem?_eq_getElem hjl
    have u0 := pa_at HD2.out.al hjx
    have u1 := pb_at HD2.out.bl hjx
    generalize ks[j] = yy at u0 u1
    have z0 := HD2.out.al.frozen (g := ga) rfl j
    have z1 := HD2.out.bl.frozen (g := gb) rfl j
    have n1 : ga ≠ gb := fun e => by
      obtain ⟨cs, hc⟩ := own_kind HD2.out.al (k := ga) rfl
      obtain ⟨cs', hc'⟩ := own_kind HD2.out.bl (k := gb) rfl
      exact ne_of_types hc hc' (by decide) e
    have n2 : bd ≠ ga := fun e => Go.Sb.own_ne HH2.out (by decide) HD2.out.al (by rw [e]; rfl)
    have n3 : bd ≠ gb := fun e => Go.Sb.own_ne HH2.out (by decide) HD2.out.bl (by rw [e]; rfl)
    clear hjx
    go_wp2_with (fail)
    go_ret
    have hset : Fr (fun k => k = ga ∨ k = gb) w2 ((w2.setCell ⟨ga, j, none⟩ (.pointer (some ⟨bc, 0, none⟩))).setCell ⟨gb, j, none⟩ (.pointer (some ⟨bc2, 0, none⟩))) := ((Fr.refl (fun k => k = ga ∨ k = gb) w2).setCell (p := ⟨ga, j, none⟩) (.inl (.inl rfl)) _).setCell (p := ⟨gb, j, none⟩) (.inl (.inr rfl)) _
    refine ⟨rfl, _, _, _, _, _, ks.set j (bc, bc2), E, fr, HD2.out.lists hset (fun k hk => .inr (hk.imp (fun e => by rw [e]; rfl) (fun e => by rw [e]; rfl))) (hset.get HH2.out (fun h => h.elim n2 n3)) ?_ ?_ (by rw [List.length_set]; omega) ?_, by rw [List.length_set]; omega⟩
    · have h1 := HD2.out.al.set (u := .pointer (some ⟨bc, 0, none⟩)) (g := ga) rfl hjl
      rw [List.length_set, List.map_set]
      exact h1.of (fun k _ hb => heap_setCell_ne _ _ _ _ (fun e => n1 (by simp only [Value.ownBlock, Option.some.injEq] at hb; rw [hb]; exact e)))
    · have h1 := HD2.out.bl.of (w' := w2.setCell ⟨ga, j, none⟩ (.pointer (some ⟨bc, 0, none⟩))) (fun k _ hb => heap_setCell_ne _ _ _ _ (fun e => n1 (by simp only [Value.ownBlock, Option.some.injEq] at hb; rw [hb]; exact e.symm)))
      rw [List.length_set, List.map_set]
      exact h1.set (u := .pointer (some ⟨bc2, 0, none⟩)) (g := gb) rfl hjl
    · intro y hy
      rcases List.mem_or_eq_of_mem_set hy with hy | rfl
      · exact HD2.out.ks_in y hy
      · exact HKEY.out

end Go.Proofs.Ytikimfdijkejpaa.HT
