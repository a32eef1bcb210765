/- THE WALK of QueueShares. -/
import Derived.Test.YtolonoabipnpfaaQLClone
import Derived.Test.YtolonoabipnpfaaQShown
import Derived.Test.YtolonoabipnpfaaQRef
import Derived.BigQuiet
namespace Go.Proofs.Ytolonoabipnpfaa
open Go.RowKit Go.Sb
attribute [local go_sem] Oper.semAt_some

theorem own_one (w : World) (x : Int) : Sb.Own 3 1 (fun k => w.heap.size ≤ k) (w.alloc (.cells #[.int .i64 x] 3)) (.slice (some ⟨w.heap.size, 0, none⟩) 1 1) 1 [.int .i64 x] :=
  ⟨rfl, .inr ⟨w.heap.size, 1, #[.int .i64 x], rfl, Nat.le_refl _, heap_alloc_eq _ _, by omega, by unfold maxLen; omega, rfl, rfl⟩⟩

/-- What QueueShares keeps beside its queues: v's box, the result's, the slice's, and the slice's first cell. -/
structure ShSt (w0 : World) (bv bo b7 g7 n k : Nat) (v : Int) (u : Value) (W : World) : Prop where
  V : W.heap[bv]? = some (.cells #[.int .i64 v] 3 (0, 0))
  O : W.heap[bo]? = some (.cells #[.bool false] 4 (0, 0))
  S : W.heap[b7]? = some (.cells #[.slice (some ⟨g7, 0, none⟩) n k] 27 (0, 0))
  G : ∃ cur : Array Value, W.heap[g7]? = some (.cells cur 3 (0, 0)) ∧ cur[0]? = some u
  fr : Fr (fun _ => False) w0 W
  ne : bv ≠ g7
  ge : w0.heap.size ≤ g7

theorem ShSt.of {w0 W W' : World} {bv bo b7 g7 n k : Nat} {v : Int} {u : Value} (h : ShSt w0 bv bo b7 g7 n k v u W) {G : Nat → Prop} (hf : Fr G W W') (hG : ∀ (b : Nat) (cs : Array Value) (T : TypeId), W.heap[b]? = some (.cells cs T (0, 0)) → T ≠ 105 → T ≠ 109 → ¬ G b) (h0 : ∀ b, G b → w0.heap.size ≤ b) :
    ShSt w0 bv bo b7 g7 n k v u W' := by
  obtain ⟨cur, hc, hu⟩ := h.G
  exact ⟨hf.get h.V (hG _ _ _ h.V (by decide) (by decide)), hf.get h.O (hG _ _ _ h.O (by decide) (by decide)), hf.get h.S (hG _ _ _ h.S (by decide) (by decide)), ⟨cur, hf.get hc (hG _ _ _ hc (by decide) (by decide)), hu⟩, h.fr.trans hf (fun b hb hg => absurd (h0 b hg) (by omega)), h.ne, h.ge⟩

/-- The slice's first cell is written. -/
theorem ShSt.put {w0 W : World} {bv bo b7 g7 n k : Nat} {v : Int} {u : Value} (h : ShSt w0 bv bo b7 g7 n k v u W) (x : Value) : ShSt w0 bv bo b7 g7 n k v x (W.setCell ⟨g7, 0, none⟩ x) := by
  obtain ⟨cur, hc, hu⟩ := h.G
  have hf : Fr (fun k => k = g7) W (W.setCell ⟨g7, 0, none⟩ x) := (Fr.refl (fun k => k = g7) _).setCell (p := ⟨g7, 0, none⟩) (.inl rfl) _
  have hz : 0 < cur.size := (Array.getElem?_eq_some_iff.1 hu).1
  exact ⟨hf.get h.V h.ne, hf.get h.O (fun e => ne_of_types h.O hc (by decide) e), hf.get h.S (fun e => ne_of_types h.S hc (by decide) e), ⟨_, heap_setCell_eq 0 x hc, by simp [hz]⟩, h.fr.setCell (.inr h.ge) _, h.ne, h.ge⟩

theorem ShSt.none {w0 W W' : World} {bv bo b7 g7 n k : Nat} {v : Int} {u : Value} (h : ShSt w0 bv bo b7 g7 n k v u W) (hf : Fr (fun _ => False) W W') : ShSt w0 bv bo b7 g7 n k v u W' := h.of hf (fun _ _ _ _ _ _ h => h) (fun _ h => h.elim)

theorem ShSt.q {w0 W W' : World} {bv bo b7 g7 n k : Nat} {v : Int} {u : Value} (h : ShSt w0 bv bo b7 g7 n k v u W) {F : Nat → Prop} {bq bm : Nat} {g : Int} {l : List Nd} (hq : QRep 105 109 F W bq g l bm) (hf : Fr (foot bq bm l) W W') (h0 : ∀ b, F b → w0.heap.size ≤ b) :
    ShSt w0 bv bo b7 g7 n k v u W' := h.of hf (fun _ _ _ hb h1 h2 => hq.foot_not hb h1 h2) (fun b hb => h0 b (hq.foot_in b hb))

set_option maxRecDepth 100000 in
set_option maxHeartbeats 4000000 in
theorem shares_any (la : Option Addr) (lb lo ln lc : Nat) (zs : List Int) (v : Int) (w : World) (hla : 0 < ln → la = some ⟨lb, lo, none⟩) (hlz : zs.length = ln) (hl0 : la = none → ln = 0) (hlm : ln ≤ 17592186044416)
    (hcell : ∀ i, i < ln → w.cell? ⟨lb, lo + i, none⟩ = some (.int .i64 (zs.getD i 0))) :
    Calls Try.prog 6 #[.slice la ln lc, .int .i64 v] w fun e w' => e = .returned (.bool true) ∧ Fr (fun _ => False) w w' := by
  have HLA := Lib.hid hla
  have HL0 := Lib.hid hl0
  have HC := Lib.hid hcell
  have HLZ := Lib.hid hlz
  clear hla hcell hl0 hlz
  refine calls_of_marks Try.func6 rfl ?_
  simp only [Try.ntmps6, List.size_toArray, List.length_cons, List.length_nil, Nat.reduceAdd, Nat.reduceSub, Array.replicate_succ, Array.replicate_zero, List.push_toArray, List.append_toArray, List.nil_append, List.cons_append]
  go_wp2_with (fail)
  refine (shown_any _).mono ?_
  rintro e w1 ⟨rfl, hf1⟩
  have hv1 := hf1.get ((heap_alloc_lt (w.alloc (.cells #[.int .i64 v] 3)) (.cells #[.bool false] 4) w.heap.size (by simp)).trans (heap_alloc_eq w (.cells #[.int .i64 v] 3))) id
  have hO1 := hf1.get (heap_alloc_eq (w.alloc (.cells #[.int .i64 v] 3)) (.cells #[.bool false] 4)) id
  rw [World.size_alloc] at hO1
  have HV1 := Lib.hid hv1
  have HO1 := Lib.hid hO1
  have HF1 := Lib.hid ((((Fr.refl (fun _ => False) w).alloc (.cells #[.int .i64 v] 3)).alloc (.cells #[.bool false] 4)).trans hf1 (fun _ _ h => h))
  have HS1 := Lib.hid (lt_of_heap hO1)
  clear hf1 hv1 hO1
  go_wp2_with (fail)
  refine (QL.new_any (fun k => w1.heap.size ≤ k) w1 (fun k h => h)).mono ?_
  rintro e w2 ⟨rfl, hq2, hf2⟩
  have HQ2 := Lib.hid hq2
  have HF2 := Lib.hid hf2
  clear hq2 hf2
  generalize hbv : w.heap.size = bv at *
  generalize hbq : w1.heap.size + 1 = bq at *
  generalize hbm : w1.heap.size = bm at *
  have hsrc : Src (w2.alloc (.cells #[.int .i64 1] 3)) (.slice la ln lc) ln 1 (zs.map fun z => .int .i64 z) := by
    refine ⟨by rw [List.length_map, HLZ.out]; omega, fun u hu => ?_, ?_⟩
    · obtain ⟨z, _, rfl⟩ := List.mem_map.1 hu
      rfl
    · cases la with
      | none => exact .inl ⟨lc, rfl, HL0.out rfl⟩
      | some ad =>
        refine .inr ⟨ad, lc, rfl, fun j u hj => ?_⟩
        have hjl : j < ln := by have := (List.getElem?_eq_some_iff.1 hj).1; rw [List.length_map, HLZ.out] at this; exact this
        have hadd := HLA.out (by omega)
        cases hadd
        have ha : (⟨lb, lo, none⟩ : Addr).add j = ⟨lb, lo + j, none⟩ := by unfold Addr.add; split <;> simp_all
        rw [ha]
        have hz : u = .int .i64 (zs.getD j 0) := by
          rw [List.getElem?_map] at hj
          have hzl : j < zs.length := by rw [HLZ.out]; exact hjl
          rw [List.getElem?_eq_getElem hzl] at hj
          simp only [Option.map_some, Option.some.injEq] at hj
          rw [← hj, List.getD_eq_getElem?_getD, List.getElem?_eq_getElem hzl]
          rfl
        rw [hz]
        exact cell_fr (((HF1.out.trans HF2.out (fun _ _ h => h))).alloc _) (HC.out j hjl) id
  have HSRC := Lib.hid hsrc
  clear hsrc
  go_wp2_with (at_builtin; refine wpList_append_Own _ rfl _ _ 27 rfl 3 (.int .i64 0) 1 8 Try.underlying27 Try.info3 rfl (by decide) (.slice (some ⟨w2.heap.size, 0, none⟩) 1 1) 1 [.int .i64 1] rfl (own_one w2 1) (.slice la ln lc) ln _ rfl HSRC.out (by unfold maxLen; omega) (by omega) ?_; intro v7 w3 hv7 hf3 hn3 hd3; obtain ⟨g7, k7, rfl, _, _⟩ := hv7.some (by omega); have HV7 := Lib.hid (hv7.mono (G := fun k => w2.heap.size ≤ k) (fun k _ h => h.elim id (fun h => by simp at h; omega))); have HF3 := Lib.hid ((((Fr.refl (fun k => w2.heap.size ≤ k) w2).alloc (.cells #[.int .i64 1] 3))).trans hf3 (fun k hk h => by simp [Value.ownBlock] at h; omega)); clear hv7 hf3 hn3 hd3)
  have hs3 := HF3.out.size
  have hbm := HQ2.out.places.lt
  have HQ3 := Lib.hid ((HQ2.out.mono (G := fun k => bm ≤ k ∧ k < w2.heap.size) (fun k hk h => ⟨h, hk⟩)).fr HF3.out (fun k _ h h2 => by omega))
  have HQ4 := Lib.hid (HQ3.out.fr ((Fr.refl (fun _ => False) w3).alloc (.cells #[.slice (some ⟨g7, 0, none⟩) (1 + ln) k7] 27)) (fun _ _ _ h => h))
  have hst : ShSt w bv (bv + 1) w3.heap.size g7 (1 + ln) k7 v (.int .i64 1) (w3.alloc (.cells #[.slice (some ⟨g7, 0, none⟩) (1 + ln) k7] 27)) := by
    have hfr : Fr (fun _ => False) w2 w3 := HF3.out.trans (F' := fun _ => False) (Fr.refl _ _) (fun _ _ h => h.elim) |>.mono (fun k hk h => by omega)
    have f4 : Fr (fun _ => False) w3 (w3.alloc (.cells #[.slice (some ⟨g7, 0, none⟩) (1 + ln) k7] 27)) := (Fr.refl _ _).alloc _
    have f24 := hfr.trans f4 (fun _ _ h => h)
    have hg : w3.heap.size ≠ 0 ∨ True := .inr trivial
    obtain ⟨h1, h2⟩ := HV7.out
    rcases h2 with ⟨hv, _⟩ | ⟨g', cap, cur, hv, hge7, hgg, _, _, hsz, htk⟩
    · cases hv
    · cases hv
      have hge8 : w2.heap.size ≤ g7 := hge7
      have hs1' := HS1.out
      refine ⟨f24.get (HF2.out.get HV1.out id) id, f24.get (HF2.out.get HO1.out id) id, heap_alloc_eq _ _, ⟨cur, f4.get hgg id, ?_⟩, (HF1.out.trans HF2.out (fun _ _ h => h)).trans f24 (fun _ _ h => h), by omega, by omega⟩
      have : (cur.toList.take ((1 + ln) * 1))[0]? = some (.int .i64 1) := by rw [htk]; rfl
      rw [List.getElem?_take, if_pos (by omega)] at this
      simpa using this
  have HST := Lib.hid hst
  clear hst
  have hbv7 : bv < bm := HS1.out |> fun h => by omega
  refine (QL.join_any (foot bq bm []) bq bm 0 (some ⟨g7, 0, none⟩) (1 + ln) k7 _ [] HQ4.out.exact (by decide) (by decide) (by simp)).mono ?_
  rintro e w5 ⟨rfl, ⟨b5, hb5, hq5⟩, hf5⟩
  have HST5 := Lib.hid (HST.out.q HQ4.out hf5 (fun b hb => by omega))
  have HQ5 := Lib.hid (hq5.mono (G := fun k => bm ≤ k ∧ k < w5.heap.size) (fun k hk h => ⟨h.elim (fun h => (HQ4.out.foot_in k h).1) (fun h => by simp at h; omega), hk⟩))
  simp only [List.nil_append, Int.zero_add] at HQ5
  have hbv0 : w.heap.size ≤ bm := by omega
  clear hq5 hf5 hb5 HST HQ4 HQ3 HV7 HF3 HSRC
  generalize hb7 : w3.heap.size = b7 at *
  go_wp2_with (fail)
  refine (QL.clone_any (fun k => bm ≤ k ∧ k < w5.heap.size) bq bm 1 w5 _ [(1, (some ⟨g7, 0, none⟩, 1 + ln, k7))] HQ5.out rfl (by simp)).mono ?_
  rintro e w6 ⟨bc, bmc, lc, rfl, hqc, hlc, hf6⟩
  obtain ⟨nd, lc', rfl, hnd, hlc'⟩ := List.map_eq_cons_iff.1 hlc
  obtain rfl := List.map_eq_nil_iff.1 hlc'
  obtain ⟨b6, t6, v6⟩ := nd
  obtain rfl : t6 = 1 := congrArg Prod.fst hnd
  obtain rfl : v6 = .slice (some ⟨g7, 0, none⟩) (1 + ln) k7 := congrArg Prod.snd hnd
  have HQ6 := Lib.hid (HQ5.out.fr hf6 (fun _ _ _ h => h))
  have HC6 := Lib.hid hqc
  have HST6 := Lib.hid (HST5.out.none hf6)
  have hs6 := hf6.size
  have hs5 := HQ5.out.places.lt
  clear hqc hlc hf6 hnd hlc' HST5 HQ5
  obtain ⟨cur6, hg6, hu6⟩ := HST6.out.G
  have c7 : w6.cell? ⟨b7, 0, none⟩ = some (.slice (some ⟨g7, 0, none⟩) (1 + ln) k7) := cell_is HST6.out.S 0 rfl
  have cv : w6.cell? ⟨bv, 0, none⟩ = some (.int .i64 v) := cell_is HST6.out.V 0 rfl
  have cg : w6.cell? ⟨g7, 0, none⟩ = some (.int .i64 1) := cell_is hg6 0 hu6
  have fg := frozen_of hg6 0
  have f67 : Fr (fun k => k = g7) w6 (w6.setCell ⟨g7, 0, none⟩ (.int .i64 v)) := (Fr.refl (fun k => k = g7) _).setCell (p := ⟨g7, 0, none⟩) (.inl rfl) _
  have HQ7 := Lib.hid (HQ6.out.off f67 hg6 (by decide) (by decide))
  have HC7 := Lib.hid (HC6.out.off f67 hg6 (by decide) (by decide))
  have HST7 := Lib.hid (HST6.out.put (.int .i64 v))
  clear hg6 hu6 f67
  have hl1 : (0 : Int) < ((1 + ln : Nat) : Int) := by omega
  go_wp2_with (fail)
  generalize w6.setCell ⟨g7, 0, none⟩ (.int .i64 v) = w7 at *
  clear c7 cv cg fg
  refine (QL.get_some _ bq bm 1 1 b5 (some ⟨g7, 0, none⟩) (1 + ln) k7 w7 _ [] [] HQ7.out rfl).mono ?_
  rintro e w8 ⟨rfl, rfl⟩
  go_wp2_with (fail)
  refine (QL.first_cons _ bc bmc 1 1 b6 (some ⟨g7, 0, none⟩) (1 + ln) k7 w7 [] HC7.out).mono ?_
  rintro e w8 ⟨rfl, n8, rfl⟩
  have HC8 := Lib.hid (HC7.out.drewN n8)
  have HQ8 := Lib.hid (HQ7.out.drewN n8)
  have HST8 := Lib.hid (HST7.out.none ((Fr.refl _ w7).drewN n8))
  go_wp2_with (fail)
  generalize w7.drewN n8 = w8 at *
  refine (QL.leave_any _ bc bmc 1 1 b6 (some ⟨g7, 0, none⟩) (1 + ln) k7 w8 _ [] [] HC8.out.exact rfl).mono ?_
  rintro e w9 ⟨rfl, hq9, hf9⟩
  have HC9 := Lib.hid (hq9.mono (G := fun k => w5.heap.size ≤ k) (fun k _ h => HC8.out.foot_in k h))
  have HQ9 := Lib.hid (HQ8.out.fr hf9 (fun k _ h h2 => by have := HC8.out.foot_in k h2; omega))
  have HST9 := Lib.hid (HST8.out.q HC8.out hf9 (fun b hb => by omega))
  clear hq9 hf9 HC8 HQ8 HST8 HC7 HQ7 HST7
  have c7 : w9.cell? ⟨b7, 0, none⟩ = some (.slice (some ⟨g7, 0, none⟩) (1 + ln) k7) := cell_is HST9.out.S 0 rfl
  have cv : w9.cell? ⟨bv, 0, none⟩ = some (.int .i64 v) := cell_is HST9.out.V 0 rfl
  obtain ⟨cur9, hg9, hu9⟩ := HST9.out.G
  have cg : w9.cell? ⟨g7, 0, none⟩ = some (.int .i64 v) := cell_is hg9 0 hu9
  clear hg9 hu9
  go_wp2_with (fail)
  go_quiet (fail)
  have HC10 := Lib.hid (HC9.out.drewN nq)
  have HQ10 := Lib.hid (HQ9.out.drewN nq)
  have HST10 := Lib.hid (HST9.out.none ((Fr.refl _ w9).drewN nq))
  clear HC9 HQ9 HST9 c7 cv cg
  generalize w9.drewN nq = w10 at *
  go_wp2_with (fail)
  refine (QL.all_any bq _).mono ?_
  rintro e wY ⟨rfl, rfl⟩
  have f11 : Fr (fun _ => False) w10 ((w10.alloc (.cells #[.int .i64 0] 3)).alloc (.cells #[.pointer (some ⟨bq, 0, none⟩)] 69)) := ((Fr.refl _ _).alloc _).alloc _
  have hi0 : ((w10.alloc (.cells #[.int .i64 0] 3)).alloc (.cells #[.pointer (some ⟨bq, 0, none⟩)] 69)).heap[w10.heap.size]? = some (.cells #[.int .i64 0] 3 (0, 0)) := by
    rw [heap_alloc_lt _ _ _ (by simp)]
    exact heap_alloc_eq _ _
  have hB0 := heap_alloc_eq (w10.alloc (.cells #[.int .i64 0] 3)) (.cells #[.pointer (some ⟨bq, 0, none⟩)] 69)
  rw [World.size_alloc] at hB0
  have HC11 := Lib.hid (HC10.out.fr f11 (fun _ _ _ h => h))
  have HQ11 := Lib.hid (HQ10.out.fr f11 (fun _ _ _ h => h))
  have HST11 := Lib.hid (HST10.out.none f11)
  have HI0 := Lib.hid hi0
  have HB0 := Lib.hid hB0
  have hge : w.heap.size ≤ w10.heap.size := HST10.out.fr.size
  have hniv : bv ≠ w10.heap.size := fun e => by have := lt_of_heap HST10.out.V; omega
  have hnig : g7 ≠ w10.heap.size := fun e => by obtain ⟨c, hc, _⟩ := HST10.out.G; have := lt_of_heap hc; omega
  clear f11 hi0 hB0 HC10 HQ10 HST10
  go_wp2_with (fail)
  generalize (w10.alloc (.cells #[.int .i64 0] 3)).alloc (.cells #[.pointer (some ⟨bq, 0, none⟩)] 69) = W0 at *
  generalize hbI : w10.heap.size = bi at *
  have hB0c : W0.cell? ⟨bi + 1, 0, none⟩ = some (.pointer (some ⟨bq, 0, none⟩)) := cell_is HB0.out 0 rfl
  refine (wpIn_wide (n := 1)).1 ?_
  refine wpIn_rangeNext (gf := 45) (lb := #[.pointer (some ⟨bi + 1, 0, none⟩)]) rfl (enters_of Try.func45 (by kernel_rfl) rfl)
    (QL.all_gives _ bq bm (bi + 1) _ W0 _ [((1 : Int), ((some ⟨g7, 0, none⟩ : Option Addr), 1 + ln, k7))] HQ11.out rfl (by simp) hB0c) KeepBuf.trans (fun W l o o' _ hl ho _ => KeepBuf.putObj W l o o' hl ho) (Below.refl _ _) (fun _ => rfl)
    (fun pre W => W.heap[bi]? = some (.cells #[.int .i64 (pre.length : Int)] 3 (0, 0)) ∧ Fr (fun k => k = bi) W0 W) (fun _ _ _ => False) ?own (fun _ _ _ _ _ h _ _ => h) ⟨HI0.out, Fr.refl _ _⟩ ?round ?done ?stop
  case own =>
    intro s A B row ⟨h1, h2⟩ hg hr
    exact ⟨(hg.block bi (lt_of_heap h1) (fun e => by have := (hr _ e.symm).1; have := lt_of_heap HI0.out; omega)).trans h1, h2.grown hg (fun k e => .inr (hr k e).1)⟩
  case round =>
    rintro l pre x V W ⟨hi, hf⟩ hnx
    obtain ⟨rfl, rfl⟩ : pre = [] ∧ x = ((1 : Int), ((some ⟨g7, 0, none⟩ : Option Addr), 1 + ln, k7)) := by
      obtain ⟨r, hr⟩ := hnx
      cases pre with
      | nil => simp at hr; exact ⟨rfl, hr.1⟩
      | cons a p => simp at hr
    have i0 : W.cell? ⟨bi, 0, none⟩ = some (.int .i64 0) := cell_is hi 0 rfl
    have i1 := frozen_of hi 0
    have c7 : W.cell? ⟨b7, 0, none⟩ = some (.slice (some ⟨g7, 0, none⟩) (1 + ln) k7) := cell_fr hf (cell_is HST11.out.S 0 rfl) (fun e => ne_of_types HST11.out.S HI0.out (by decide) e)
    have cv : W.cell? ⟨bv, 0, none⟩ = some (.int .i64 v) := cell_fr hf (cell_is HST11.out.V 0 rfl) hniv
    obtain ⟨cur, hg, hu⟩ := HST11.out.G
    have cg : W.cell? ⟨g7, 0, none⟩ = some (.int .i64 v) := cell_fr hf (cell_is hg 0 hu) hnig
    have HI := Lib.hid hi
    have HF := Lib.hid hf
    clear hi hf hg hu hnx
    gi_wp2
    refine ⟨trivial, ?_⟩
    gi_wp2
    refine wpIn_region_quiet_round (by kernel_rfl) (by kernel_rfl) (by kernel_rfl) ?_
    repeat (gi_big_quiet_step (fail))
    refine wpQuietIn_nil ?_
    rintro _ ⟨nq, rfl⟩
    gi_wp2
    refine ⟨keeps_drewN (KeepsOthers.setCell (W.drewN nq) _ _), KeepBuf.of_fr (((Fr.refl (fun k => k = bi) W).drewN nq).setCell (p := ⟨bi, 0, none⟩) (.inl rfl) _) (fun k cs hk hc => ?_), ?_, (HF.out.drewN nq).setCell (p := ⟨bi, 0, none⟩) (.inl rfl) _⟩
    · subst hk
      exact absurd rfl (ne_of_types HI.out hc (by decide))
    · have := heap_setCell_eq (w := W.drewN nq) 0 (.int .i64 1) HI.out
      simpa using this
  case done =>
    rintro D ys W hD rfl ⟨hi, hf⟩ hK
    have i0 : W.cell? ⟨bi, 0, none⟩ = some (.int .i64 1) := cell_is hi 0 rfl
    have HQW := Lib.hid (HQ11.out.off hf HI0.out (by decide) (by decide))
    have HCW := Lib.hid (HC11.out.off hf HI0.out (by decide) (by decide))
    have hoW : W.heap[bv + 1]? = some (.cells #[.bool false] 4 (0, 0)) := hf.get HST11.out.O (fun e => ne_of_types HST11.out.O HI0.out (by decide) e)
    have HFW := Lib.hid (HST11.out.fr.trans hf (fun k hk e => by omega))
    have o0 := frozen_of hoW 0
    have o1 : W.cell? ⟨bv + 1, 0, none⟩ = some (.bool false) := cell_is hoW 0 rfl
    have HOW := Lib.hid hoW
    have HK := Lib.hid hK
    clear hi hf hK hB0c hoW
    go_wp2_with (fail)
    refine (QL.len_any _ bq bm _ _ _ HQW.out).mono ?_
    rintro e w12 ⟨rfl, rfl⟩
    go_wp2_with (fail)
    refine (QL.len_any _ bc bmc _ _ _ HCW.out).mono ?_
    rintro e w12 ⟨rfl, rfl⟩
    go_wp2_with (fail)
    have hDo : D ≠ bv + 1 := fun e => by
      have h1 := HK.out
      rw [e, HOW.out] at h1
      cases h1
    have hK' : (W.setCell ⟨bv + 1, 0, none⟩ (.bool true)).heap[D]? = some (.deferred (some [])) := (heap_setCell_ne _ _ _ _ hDo).trans HK.out
    refine ⟨by simp, .inl ⟨_, _, rfl, run_takeDeferred hK', ?_⟩⟩
    have hc5 : ((W.setCell ⟨bv + 1, 0, none⟩ (.bool true)).putObj D (.deferred none)).cell? ⟨bv + 1, 0, none⟩ = some (.bool true) := by
      rw [cell?_putObj _ _ _ _ (Ne.symm hDo)]
      exact World.cell?_setCell_same' _ _ _ (by rw [o1]; rfl)
    refine ⟨.bool true, ?_, rfl, (HFW.out.setCell (p := ⟨bv + 1, 0, none⟩) (.inr (show w.heap.size ≤ bv + 1 by omega)) _).putObj (.inr (Nat.le_trans HST11.out.fr.size hD)) _⟩
    simp [results, Try.f6, go_sem, hc5]
  case stop =>
    rintro D c pre W _ _ h _
    exact h.elim

end Go.Proofs.Ytolonoabipnpfaa
