/- HeapScript: the order is asked for, and kept. -/
import Derived.Test.YtikimfdijkejpaaHpDesk
namespace Go.Proofs.Ytikimfdijkejpaa.HT
open Go.RowKit Go.Sb

/-- keep, in the words of the whole -/
theorem keep_held {F : Nat → Prop} (w : World) (h n : Nat) (av bv vo vw fr : Value) (L : List Ent) (b : Value) (xs : List Int) (hh : Held 71 22 3 F w (fun j => n ≤ j) h vo vw ([av, bv], [fr]) L) (hb : OB 3 F w b xs) (hF : ∀ k, w.heap.size ≤ k → F k)
    (hap : ∀ (j : Nat) (e : Ent), L[j]? = some e → Apart b e.out ∧ Apart b e.want) (hm : xs.length ≤ 8796093022208) (hn : L.length ≤ 8796093022208) :
    Calls Try.prog 79 #[.pointer (some ⟨h, 2, none⟩), b] w fun e w' => ∃ vo' vw' c, e = .returned (.tuple #[]) ∧ Held 71 22 3 F w' (fun j => n ≤ j) h vo' vw' ([av, bv], [fr]) (L ++ [⟨b, c, xs⟩]) ∧ Fr (HRows.at h vo vw) w w' := by
  refine (keep_any w h av bv vo vw fr L b xs hh.rows hb hF hm hn).mono ?_
  rintro e w' ⟨vo', vw', c, he, hr, hc, hf⟩
  have hp := hh.rows.pile hh.pile hf (by decide) (by decide)
  have hb' : OB 3 F w' b xs := OB.of hb (hh.rows.blk hf (by decide) (by decide) hb.rd.2)
  have hc' : OB 3 F w' c xs := Own.mono hc (fun k _ hk => hF k hk)
  have cbig : ∀ k, c.ownBlock = some k → w.heap.size ≤ k := fun k hk => (Own.block hc k hk).1
  have hk := hp.keep hb' hc' (fun k hk hk' => by have := cbig k hk'; have := (Own.block hb k hk).2; omega) (fun j e he => by
    obtain ⟨h1, h2⟩ := hap j e he
    refine ⟨h1, h2, fun k hk hk' => ?_, fun k hk hk' => ?_⟩
    · have := cbig k hk; have := hh.pile.lt he (.inl hk'); omega
    · have := cbig k hk; have := hh.pile.lt he (.inr hk'); omega)
  exact ⟨vo', vw', c, he, ⟨hr, hk.lift (fun j hj hj2 => by simp at hj ⊢; omega)⟩, hf⟩

theorem ivs_bi (zs : List Int) : ivs zs = zs.map bi := rfl

theorem pa_at {F : Nat → Prop} {w : World} {g c : Nat} {ks : List (Nat × Nat)} (h : Own 49 1 F w (.slice (some ⟨g, 0, none⟩) ks.length c) ks.length (ks.map pa)) {k : Nat} {x : Nat × Nat} (hx : ks[k]? = some x) : w.cell? ⟨g, k, none⟩ = some (.pointer (some ⟨x.1, 0, none⟩)) :=
  h.cell rfl (by rw [List.getElem?_map, hx]; rfl)
theorem pb_at {F : Nat → Prop} {w : World} {g c : Nat} {ks : List (Nat × Nat)} (h : Own 73 1 F w (.slice (some ⟨g, 0, none⟩) ks.length c) ks.length (ks.map pb)) {k : Nat} {x : Nat × Nat} (hx : ks[k]? = some x) : w.cell? ⟨g, k, none⟩ = some (.pointer (some ⟨x.2, 0, none⟩)) :=
  h.cell rfl (by rw [List.getElem?_map, hx]; rfl)

set_option maxRecDepth 100000 in
set_option maxHeartbeats 4000000 in
theorem order_desk (w0 w : World) (bd : Nat) (P : List Pr) (N : Int) (av bv vo vw : Value) (ks : List (Nat × Nat)) (E : List Ent) (fr k : Nat) (h : Desk w0 w bd P N av bv vo vw ks E fr) (hk : k < ks.length) (hN : N ≤ 4398046511103) :
    Calls Try.prog 61 #[.pointer (some ⟨bd, 0, none⟩), .int .i64 (k : Int)] w fun e w' => e = .returned (.bool true) ∧ ∃ vo' vw' E', Desk w0 w' bd P (N + 1) av bv vo' vw' ks E' fr := by
  obtain ⟨ga, ca, rfl, _, _⟩ := Go.Sb.Own.some h.al (by omega)
  obtain ⟨gb, cb, rfl, _, _⟩ := Go.Sb.Own.some h.bl (by omega)
  have hx : ks[k]? = some ks[k] := List.getElem?_eq_getElem hk
  obtain ⟨i, p, hi, hp1, hp2⟩ := key_at (h.ks_in _ (List.mem_of_getElem? hx))
  have hhd : w.heap[bd]? = some (.cells #[.slice (some ⟨ga, 0, none⟩) ks.length ca, .slice (some ⟨gb, 0, none⟩) ks.length cb, vo, vw, .int .i64 (fr : Int)] 71 (0, 0)) := h.held.rows.head
  have c0 : w.cell? ⟨bd, 0, none⟩ = some (.slice (some ⟨ga, 0, none⟩) ks.length ca) := cell_is hhd 0 rfl
  have ca0 := pa_at h.al hx
  rw [← hp1] at ca0
  have HX := Lib.hid hx
  have HI := Lib.hid hi
  have HP := Lib.hid (And.intro hp1 hp2)
  have HR := Lib.hid (h.bank.rep i p hi)
  have hpg := h.bank.le i p hi
  have hpl := HR.out.sim.len
  have hpL := HR.out.sim.lenL
  have HPL := Lib.hid hpL
  have hfle := h.fle
  have hpot := h.pot
  have hks := h.ll
  have H := Lib.hid h
  clear h hi hp1 hp2 hhd hx hpL
  go_enter Try.func61, Try.ntmps61
  go_wp2_with (fail)
  refine (order_any (way_spec p.way HR.out.hw) HR.out.q (by have := HPL.out; omega)).mono ?_
  rintro e w1 ⟨v, rfl, hv, hf1⟩
  have hzl : p.L.length = ((orderL (wKey p.way) p.L).map Prod.fst).length := by rw [List.length_map, (orderL_perm _).length_eq]
  rw [hzl, ivs_bi] at hv
  have HV := Lib.hid (show OB 3 (fun k => w.heap.size ≤ k) w1 v ((orderL (wKey p.way) p.L).map Prod.fst) from hv)
  have HZL := Lib.hid hzl
  have HF1 := Lib.hid hf1
  have H1 := Lib.hid (H.out.stay hf1 (Int.le_refl N))
  obtain ⟨a1, n1, c1, rfl⟩ := own_slice hv
  clear hv hf1 hzl
  have hF : ∀ k, w1.heap.size ≤ k → (bk bd vo vw E k ∨ w.heap.size ≤ k) := fun k hk => .inr (Nat.le_trans HF1.out.size hk)
  have HK := Lib.hid (keep_held (F := fun k => bk bd vo vw E k ∨ w.heap.size ≤ k) w1 bd fr _ _ vo vw (.int .i64 (fr : Int)) E (.slice a1 n1 c1) _ (held_to H1.out.held (fun k hk => .inl hk)) (Own.mono HV.out (fun k _ hk => .inr hk)) hF
    (fun j e he => ⟨fun k hk hk' => by have := (Own.block HV.out k hk).1; have := H.out.held.pile.lt he (.inl hk'); omega, fun k hk hk' => by have := (Own.block HV.out k hk).1; have := H.out.held.pile.lt he (.inr hk'); omega⟩) (by have := HPL.out; have := HZL.out; omega) (by omega))
  go_wp2_with (fail)
  refine HK.out.mono ?_
  rintro e w2 ⟨vo', vw', cc, rfl, hh2, hf2⟩
  have hbk : Fr (bk bd vo vw E) w1 w2 := hf2.mono (fun k _ hk => .inl hk)
  have hD2 : Desk w0 w2 bd P (N + 1) (.slice (some ⟨ga, 0, none⟩) ks.length ca) (.slice (some ⟨gb, 0, none⟩) ks.length cb) vo' vw' ks (E ++ [⟨.slice a1 n1 c1, cc, (orderL (wKey p.way) p.L).map Prod.fst⟩]) fr := by
    refine H.out.book HF1.out hbk hh2 (fun k hk => hk.imp id (Nat.le_trans H.out.frm.size)) ?_ (by simp; omega) (by simp; omega) (by omega)
    intro j e he
    rcases get_snoc he with ⟨he, _⟩ | ⟨_, rfl⟩
    · exact H.out.lim j e he
    · have h1 := HPL.out
      have h2 := HZL.out
      show ((orderL (wKey p.way) p.L).map Prod.fst).length ≤ _ ∧ (_ → ((orderL (wKey p.way) p.L).map Prod.fst).length ≤ _)
      omega
  have HD2 := Lib.hid hD2
  have hhd2 : w2.heap[bd]? = some (.cells #[.slice (some ⟨ga, 0, none⟩) ks.length ca, .slice (some ⟨gb, 0, none⟩) ks.length cb, vo', vw', .int .i64 (fr : Int)] 71 (0, 0)) := hD2.held.rows.head
  have d1 : w2.cell? ⟨bd, 1, none⟩ = some (.slice (some ⟨gb, 0, none⟩) ks.length cb) := cell_is hhd2 1 rfl
  have cb0 := pb_at hD2.bl HX.out
  rw [← HP.out.2] at cb0
  have hv2 : RJ w2 (.slice a1 n1 c1) ((orderL (wKey p.way) p.L).map Prod.fst) := (hh2.pile.rd E.length ⟨.slice a1 n1 c1, cc, (orderL (wKey p.way) p.L).map Prod.fst⟩ (by rw [List.getElem?_append_right (Nat.le_refl _)]; simp)).1.1
  have HV2 := Lib.hid hv2
  have HR2 := Lib.hid (hD2.bank.rep i p HI.out)
  clear hh2 hf2 hbk hD2 hhd2 hv2 HK
  go_wp2_with (fail)
  refine (rorder_any HR2.out.hw HR2.out.r (by omega) HR2.out.sim.asc).mono ?_
  rintro e w3 ⟨v3, S, rfl, hv3, hSp, hSs, hf3⟩
  have heq := HR2.out.sim.order hSp hSs
  rw [ivs_bi, ← heq] at hv3
  have hl3 : p.M.length ≤ 4611686018427387904 := by omega
  have hRI3 := own_ri hv3 hl3
  have hRI2 := rj_ri (HV2.out.of (fun k hk hb => hf3.block k hk id)) (by have := HPL.out; have := HZL.out; omega)
  have HSM := Lib.hid (same_eq _ _ _ w3 hRI2 hRI3)
  have HF3 := Lib.hid hf3
  clear hv3 hSp hSs hf3 heq hRI3 hRI2
  go_wp2_with (fail)
  refine HSM.out.mono ?_
  rintro e w4 ⟨rfl, n4, rfl⟩
  have HD4 := Lib.hid (HD2.out.stay (HF3.out.drewN n4) (Int.le_refl _))
  clear HSM
  go_wp2_with (fail)
  go_ret
  exact ⟨rfl, _, _, _, HD4.out⟩

end Go.Proofs.Ytikimfdijkejpaa.HT
