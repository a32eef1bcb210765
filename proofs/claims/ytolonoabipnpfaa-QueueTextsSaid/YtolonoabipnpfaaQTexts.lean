/- THE WALK of QueueTexts. -/
import Derived.Test.YtolonoabipnpfaaQTx0
import Derived.Test.YtolonoabipnpfaaQSIter
import Derived.Test.YtolonoabipnpfaaQShown
import Derived.Deep.RegionHeld3
import Derived.BigQuiet
import Derived.StillTailTactics
import Derived.Sort.QuietIn
namespace Go.Proofs.Ytolonoabipnpfaa
open Go.RowKit Go.Sb
attribute [local go_sem] Oper.semAt_some

theorem Try.info9 : (Try.prog.info? 9).map (fun i => (i.zero, i.size, i.bytes)) = some (some (.string ⟨#[]⟩), 1, 16) := by kernel_rfl

/-- The first loop of QueueTexts. -/
def TxRel (w0 : World) (n bq bm br bA bR bo : Nat) (i : Value) (wr : World) : Prop :=
  ∃ (k : Nat) (F1 F2 F3 : Nat → Prop) (E : List Jn) (all : List ByteArray) (tv sv av : Value), i = .int .i64 (k : Int) ∧ k ≤ n ∧ all.length ≤ k ∧
    TxSt w0 bq bm br bA bR bo F1 F2 F3 (all.length : Int) (all.length : Int) (E.map Jn.nd) (E.map Jn.pr) all tv sv av wr ∧ (∀ e ∈ E, all[e.j]? = some e.s) ∧ (∀ e ∈ E, e.t ≤ (all.length : Int)) ∧ E.length ≤ all.length

set_option maxRecDepth 100000 in
set_option maxHeartbeats 4000000 in
theorem texts_any (la : Option Addr) (lb lo ln lc : Nat) (th : Nat → Bool × ByteArray × Int) (w : World) (hla : 0 < ln → la = some ⟨lb, lo, none⟩) (hlm : ln ≤ 4398046510976)
    (hcell : ∀ i, i < ln → w.cell? ⟨lb, lo + i * 3, none⟩ = some (.bool (th i).1) ∧ w.cell? ⟨lb, lo + i * 3 + 1, none⟩ = some (.string (th i).2.1) ∧ w.cell? ⟨lb, lo + i * 3 + 2, none⟩ = some (.int .i64 (th i).2.2)) :
    Calls Try.prog 3 #[.slice la ln lc] w fun e w' => e = .returned (.bool true) ∧ Fr (fun _ => False) w w' := by
  have HLA := Lib.hid hla
  have HC := Lib.hid hcell
  clear hla hcell
  refine calls_of_marks Try.func3 rfl ?_
  simp only [Try.ntmps3, List.size_toArray, List.length_cons, List.length_nil, Nat.reduceAdd, Nat.reduceSub, Array.replicate_succ, Array.replicate_zero, List.push_toArray, List.append_toArray, List.nil_append, List.cons_append]
  go_wp2_with (fail)
  refine (shown_any _).mono ?_
  rintro e w1 ⟨rfl, hf1⟩
  have hO1 := hf1.get (heap_alloc_eq w (.cells #[.bool false] 4)) id
  have HO1 := Lib.hid hO1
  have HF1 := Lib.hid (((Fr.refl (fun _ => False) w).alloc (.cells #[.bool false] 4)).trans hf1 (fun _ _ h => h))
  clear hf1 hO1
  go_wp2_with (fail)
  refine (QS.new_any (fun k => w1.heap.size ≤ k) w1 (fun k h => h)).mono ?_
  rintro e w2 ⟨rfl, hq2, hf2⟩
  have HQ2 := Lib.hid hq2
  have HF2 := Lib.hid hf2
  have HW1 : Hid (w.heap.size < w1.heap.size) := Lib.hid (lt_of_heap HO1.out)
  clear hq2 hf2
  have hst := TxSt.start (w0 := w) HQ2.out (HF2.out.get HO1.out id) HW1.out (Nat.le_refl _) (HF1.out.trans HF2.out (fun _ _ h => h))
  have HST := Lib.hid hst
  clear hst
  generalize hbq : w1.heap.size + 1 = bq at *
  generalize hbm : w1.heap.size = bm at *
  generalize hbo : w.heap.size = bo at *
  go_wp2_with (fail)
  generalize hbr : w2.heap.size = br at *
  generalize hbR : br + 1 = bR at *
  generalize hbA : bR + 1 + 1 = bA at *
  go_loopw [7] (fun i wr => TxRel w ln bq bm br bA bR bo i wr) (fun i _ => ln - (intOf i).toNat)
  case atStart => exact ⟨0, _, _, _, [], [], _, _, _, rfl, Nat.zero_le _, Nat.le_refl _, HST.out, by simp, by simp, by simp⟩
  case round =>
    obtain ⟨k, F1, F2, F3, E, all, tv, sv, av, rfl, hk, hak, hst, hlink, hle, hel⟩ := hrel
    have HT := Lib.hid hst
    have HLK := Lib.hid hlink
    have HLE := Lib.hid hle
    have HEL := Lib.hid hel
    by_cases hlt : k < ln
    · obtain rfl := HLA.out (by omega)
      obtain ⟨hc0, hc1, hc2⟩ := HC.out k hlt
      have e0 := cell_fr hst.fr hc0 id
      have e1 := cell_fr hst.fr hc1 id
      have e2 := cell_fr hst.fr hc2 id
      clear hc0 hc1 hc2 hst hlink hle hel
      generalize th k = q at *
      obtain ⟨bt, st, tt⟩ := q
      dsimp only at e0 e1 e2
      have hmm : all.length ≤ 4398046510976 := by omega
      obtain ⟨aa, ca, rfl⟩ := own_slice HT.out.ao
      have hlbo : lb ≠ wr.heap.size := fun e => by have := World.block_lt_of_cell? wr _ e0; rw [e] at this; simp at this
      cases bt
      · have HT0 := Lib.hid (HT.out.none ((Fr.refl _ _).alloc (.cells #[.bool false, .string st, .int .i64 tt] 32)))
        have hb0 : (wr.alloc (.cells #[.bool false, .string st, .int .i64 tt] 32)).heap[wr.heap.size]? = some (.cells #[.bool false, .string st, .int .i64 tt] 32 (0, 0)) := heap_alloc_eq _ _
        have HB0 := Lib.hid hb0
        have hx1 : ¬ F1 wr.heap.size := fun h => by have := HT.out.o1.lt _ h; omega
        have hx2 : ¬ F2 wr.heap.size := fun h => by have := HT.out.o2.lt _ h; omega
        have HX := Lib.hid (And.intro hx1 hx2)
        clear hb0 hx1 hx2
        go_wp2_with (fail)
        generalize hbx : wr.heap.size = bx at *
        generalize hwX : wr.alloc (.cells #[.bool false, .string st, .int .i64 tt] 32) = wX at *
        clear hwX e0 e1 e2
        have s1 : wX.cell? ⟨bx, 2, none⟩ = some (.int .i64 tt) := cell_is HB0.out 2 rfl
        have s2 : wX.cell? ⟨bR, 0, none⟩ = some (.pointer (some ⟨br, 0, none⟩)) := cell_is HT0.out.cR 0 rfl
        by_cases hin : ∃ e ∈ E, e.t = tt
        · obtain ⟨us, b, j, s, vs, hE, hus⟩ := jn_split HT0.out.q.keys hin
          subst hE
          have hj := HLK.out ⟨b, tt, j, s⟩ (by simp)
          have hjl := (List.getElem?_eq_some_iff.1 hj).1
          dsimp only at hj hjl
          have HJ := Lib.hid hj
          have HUS := Lib.hid hus
          clear hj hus hin
          refine (QS.get_some F1 bq bm _ tt b s wX _ (us.map Jn.nd) (vs.map Jn.nd) HT0.out.q (by simp [Jn.nd])).mono ?_
          rintro e wY ⟨rfl, rfl⟩
          go_wp2_with (fail)
          refine (QS.leave_any F1 bq bm _ tt b s wX _ (us.map Jn.nd) (vs.map Jn.nd) HT0.out.q (by simp [Jn.nd])).mono ?_
          rintro e wY ⟨rfl, hq, hf⟩
          have HT1 := Lib.hid (HT0.out.q_step hf (hq.mono (fun _ _ h => .inl h)))
          have k1 : wY.cell? ⟨bx, 2, none⟩ = some (.int .i64 tt) := cell_fr hf s1 HX.out.1
          have k2 : wY.cell? ⟨bR, 0, none⟩ = some (.pointer (some ⟨br, 0, none⟩)) := cell_is HT1.out.cR 0 rfl
          clear hq hf s1 s2
          go_wp2_with (fail)
          refine (rleave_some F2 br tv sv _ tt (j : Int) _ (us.map Jn.pr) (vs.map Jn.pr) wY HT1.out.r (by have := HEL.out; simp at this ⊢; omega) (by simp [Jn.pr]) HUS.out).mono ?_
          rintro e wZ ⟨rfl, ⟨tv', sv', hr⟩, hf⟩
          have HT2 := Lib.hid (HT1.out.r_step hf hr)
          clear hr hf k1 k2
          have l3 : wZ.cell? ⟨bA, 0, none⟩ = some (.slice aa all.length ca) := cell_is HT2.out.cA 0 rfl
          obtain ⟨ga, ca', hae, _, _⟩ := HT2.out.ao.some (by omega)
          cases hae
          have l4 : wZ.cell? ⟨ga, j, none⟩ = some (.string s) := HT2.out.ao.cell rfl (by rw [List.getElem?_map, HJ.out]; rfl)
          go_wp2_with (fail)
          go_roundw
          case rel =>
            refine ⟨k + 1, _, _, _, us ++ vs, all, tv', sv', _, by simp, hlt, by omega, by simpa using HT2.out, ?_, ?_, ?_⟩
            · intro e he
              exact HLK.out e (by simp at he ⊢; rcases he with h | h <;> simp [h])
            · intro e he
              exact HLE.out e (by simp at he ⊢; rcases he with h | h <;> simp [h])
            · have := HEL.out
              simp at this ⊢
              omega
          case measure => simp [intOf]; omega
        · have hni : tt ∉ (E.map Jn.nd).map Nd.t := by
            intro h
            obtain ⟨n, hn, he⟩ := List.mem_map.1 h
            obtain ⟨e, he', rfl⟩ := List.mem_map.1 hn
            exact hin ⟨e, he', he⟩
          have hnr : ∀ p ∈ E.map Jn.pr, p.1 ≠ tt := by
            intro p hp hpt
            obtain ⟨e, he, rfl⟩ := List.mem_map.1 hp
            exact hin ⟨e, he, hpt⟩
          have HNI := Lib.hid hni
          have HNR := Lib.hid hnr
          clear hin hni hnr
          refine (QS.get_none F1 bq bm _ tt wX _ HT0.out.q HNI.out).mono ?_
          rintro e wY ⟨rfl, rfl⟩
          go_wp2_with (fail)
          refine (QS.leave_none F1 bq bm _ tt wX _ HT0.out.q HNI.out).mono ?_
          rintro e wY ⟨rfl, rfl⟩
          go_wp2_with (fail)
          refine (rleave_none F2 br tv sv _ tt _ wX HT0.out.r (by have := HEL.out; simp at this ⊢; omega) HNR.out).mono ?_
          rintro e wY ⟨rfl, rfl⟩
          go_wp2_with (fail)
          go_roundw
          case rel => exact ⟨k + 1, _, _, _, E, all, tv, sv, _, by simp, hlt, by omega, HT0.out, HLK.out, HLE.out, HEL.out⟩
          case measure => simp [intOf]; omega
      · have HT0 := Lib.hid ((HT.out.none ((Fr.refl _ _).alloc (.cells #[.bool true, .string st, .int .i64 tt] 32))).none (Fr.refl _ _).drew)
        have hb0 : (wr.alloc (.cells #[.bool true, .string st, .int .i64 tt] 32)).heap[wr.heap.size]? = some (.cells #[.bool true, .string st, .int .i64 tt] 32 (0, 0)) := heap_alloc_eq _ _
        have HB0 := Lib.hid hb0
        have hx1 : ¬ F1 wr.heap.size := fun h => by have := HT.out.o1.lt _ h; omega
        have hx2 : ¬ F2 wr.heap.size := fun h => by have := HT.out.o2.lt _ h; omega
        have HX := Lib.hid (And.intro hx1 hx2)
        clear hb0 hx1 hx2
        go_wp2_with (fail)
        generalize hbx : wr.heap.size = bx at *
        generalize hwX : wr.alloc (.cells #[.bool true, .string st, .int .i64 tt] 32) = wX at *
        clear hwX e0 e1 e2
        have s1 : wX.cell? ⟨bx, 1, none⟩ = some (.string st) := cell_is HB0.out 1 rfl
        have s2 : wX.cell? ⟨bR, 0, none⟩ = some (.pointer (some ⟨br, 0, none⟩)) := cell_is HT0.out.cR 0 rfl
        have s3 : wX.cell? ⟨bA, 0, none⟩ = some (.slice aa all.length ca) := cell_is HT0.out.cA 0 rfl
        go_region_held3 (fun w' => w'.cell? ⟨bx, 1, none⟩ = some (.string st) ∧ w'.cell? ⟨bR, 0, none⟩ = some (.pointer (some ⟨br, 0, none⟩)) ∧ w'.cell? ⟨bA, 0, none⟩ = some (.slice aa all.length ca)) (first | exact ⟨s1, s2, s3⟩ | exact ⟨k1, k2, k3⟩ | exact ⟨l1, l2, l3⟩) (first
          | (go_at_call 9; refine (QS.join_any F1 bq bm _ st wX.drew _ HT0.out.q (by omega) (by omega) (by intro n hn; obtain ⟨e, he, rfl⟩ := List.mem_map.1 hn; exact HLE.out e he)).mono ?_; rintro e wY ⟨rfl, ⟨b, hb, hq⟩, hf⟩; have HT1 := Lib.hid (HT0.out.q_step hf hq); have k1 : wY.cell? ⟨bx, 1, none⟩ = some (.string st) := cell_fr (a := wX.drew) hf s1 HX.out.1; have k2 : wY.cell? ⟨bR, 0, none⟩ = some (.pointer (some ⟨br, 0, none⟩)) := cell_is HT1.out.cR 0 rfl; have k3 : wY.cell? ⟨bA, 0, none⟩ = some (.slice aa all.length ca) := cell_is HT1.out.cA 0 rfl; have HFY := Lib.hid hf; clear hq hf hb)
          | (go_at_call 10; refine (rjoin_any F2 br tv sv _ _ _ wX.drew HT0.out.r (by omega) (by omega) (by have := HEL.out; simp; omega)).mono ?_; rintro e wY ⟨rfl, ⟨tv', sv', hr⟩, hf⟩; have HT1 := Lib.hid (HT0.out.r_step hf hr); have k1 : wY.cell? ⟨bx, 1, none⟩ = some (.string st) := cell_fr (a := wX.drew) hf s1 HX.out.2; have k2 : wY.cell? ⟨bR, 0, none⟩ = some (.pointer (some ⟨br, 0, none⟩)) := cell_is HT1.out.cR 0 rfl; have k3 : wY.cell? ⟨bA, 0, none⟩ = some (.slice aa all.length ca) := cell_is HT1.out.cA 0 rfl; have HFY := Lib.hid hf; clear hr hf)
          | (go_at_call 10; refine (rjoin_any F2 br tv sv _ _ _ wY HT1.out.r (by omega) (by omega) (by have := HEL.out; simp; omega)).mono ?_; rintro e wZ ⟨rfl, ⟨tv', sv', hr⟩, hf⟩; have HT2 := Lib.hid (HT1.out.r_step hf hr); have l1 : wZ.cell? ⟨bx, 1, none⟩ = some (.string st) := cell_fr hf k1 HX.out.2; have l2 : wZ.cell? ⟨bR, 0, none⟩ = some (.pointer (some ⟨br, 0, none⟩)) := cell_is HT2.out.cR 0 rfl; have l3 : wZ.cell? ⟨bA, 0, none⟩ = some (.slice aa all.length ca) := cell_is HT2.out.cA 0 rfl; clear hr hf)
          | (go_at_call 9; refine (QS.join_any F1 bq bm _ st wY _ HT1.out.q (by omega) (by omega) (by intro n hn; obtain ⟨e, he, rfl⟩ := List.mem_map.1 hn; exact HLE.out e he)).mono ?_; rintro e wZ ⟨rfl, ⟨b, hb, hq⟩, hf⟩; have HT2 := Lib.hid (HT1.out.q_step hf hq); have l1 : wZ.cell? ⟨bx, 1, none⟩ = some (.string st) := cell_fr hf k1 HX.out.1; have l2 : wZ.cell? ⟨bR, 0, none⟩ = some (.pointer (some ⟨br, 0, none⟩)) := cell_is HT2.out.cR 0 rfl; have l3 : wZ.cell? ⟨bA, 0, none⟩ = some (.slice aa all.length ca) := cell_is HT2.out.cA 0 rfl; clear hq hf hb))
        all_goals
          have hnA : (Value.slice aa all.length ca).ownBlock ≠ some bA := fun e => HT2.out.o3.nx (HT2.out.ao.block _ e).1
          have hAl := lt_of_heap HT2.out.cA
          go_wp2_with (at_builtin; refine wpList_append_Own _ rfl _ _ 30 rfl 9 (.string ⟨#[]⟩) 1 16 Try.underlying30 Try.info9 rfl (by decide) (.slice aa all.length ca) _ _ rfl (HT2.out.ao.alloc _) (.slice (some ⟨wZ.heap.size, 0, none⟩) 1 1) 1 [.string st] rfl (src_val wZ (.string st) 9 rfl) (by unfold maxLen; omega) (by omega) ?_; intro v5 w5 hv5 hf5 hn5 hd5; obtain ⟨g5, k5, rfl, _, _⟩ := hv5.some (by omega); have hA5 := hf5.get ((heap_alloc_lt _ _ _ hAl).trans HT2.out.cA) hnA; have hz5 := frozen_of hA5 0; have hz6 : w5.cell? ⟨bA, 0, none⟩ = some (.slice aa all.length ca) := cell_is hA5 0 rfl; have HA5 := Lib.hid (HT2.out.a_step ((Fr.refl _ _).alloc _) hv5 hf5); clear hv5 hf5 hn5 hd5 hA5)
          go_roundw
          case rel =>
            refine ⟨k + 1, _, _, _, E ++ [⟨b, (all.length : Int) + 1, all.length, st⟩], all ++ [st], tv', sv', _, by simp, hlt, by simp; omega, by simpa [Jn.nd, Jn.pr] using HA5.out, ?_, ?_, ?_⟩
            · intro e he
              rcases List.mem_append.1 he with he | he
              · have := HLK.out e he
                rw [List.getElem?_append_left (List.getElem?_eq_some_iff.1 this).1]
                exact this
              · simp only [List.mem_singleton] at he
                subst he
                simp
            · intro e he
              simp only [List.length_append, List.length_cons, List.length_nil]
              rcases List.mem_append.1 he with he | he
              · have := HLE.out e he
                omega
              · simp only [List.mem_singleton] at he
                subst he
                simp
            · have := HEL.out
              simp
              omega
          case measure => simp [intOf]; omega
    · have hmm : all.length ≤ 4398046510976 := by omega
      obtain ⟨aa, ca, rfl⟩ := own_slice HT.out.ao
      obtain rfl : k = ln := by omega
      clear hst hlink hle hel hlt hak hk
      go_wp2_with (fail)
      refine (QS.all_any bq _).mono ?_
      rintro e wY ⟨rfl, rfl⟩
      have HT0 := Lib.hid ((HT.out.none ((Fr.refl _ _).alloc (.cells #[.int .i64 0] 3))).none ((Fr.refl _ _).alloc (.cells #[.pointer (some ⟨bq, 0, none⟩)] 24)))
      have hi0 : ((wr.alloc (.cells #[.int .i64 0] 3)).alloc (.cells #[.pointer (some ⟨bq, 0, none⟩)] 24)).heap[wr.heap.size]? = some (.cells #[.int .i64 0] 3 (0, 0)) := by
        rw [heap_alloc_lt _ _ _ (by simp)]
        exact heap_alloc_eq _ _
      have hB0 := heap_alloc_n (wr.alloc (.cells #[.int .i64 0] 3)) (.cells #[.pointer (some ⟨bq, 0, none⟩)] 24) (wr.heap.size + 1) (by simp)
      have hni : ¬ F1 wr.heap.size ∧ ¬ F2 wr.heap.size ∧ ¬ F3 wr.heap.size := ⟨fun h => by have := HT.out.o1.lt _ h; omega, fun h => by have := HT.out.o2.lt _ h; omega, fun h => by have := HT.out.o3.lt _ h; omega⟩
      have hge : w.heap.size ≤ wr.heap.size := HT.out.fr.size
      have hnA : wr.heap.size ≠ bA ∧ wr.heap.size ≠ bR ∧ wr.heap.size ≠ bo := ⟨fun e => by have := lt_of_heap HT.out.cA; omega, fun e => by have := lt_of_heap HT.out.cR; omega, fun e => by have := lt_of_heap HT.out.cO; omega⟩
      have HNI := Lib.hid (And.intro hge (And.intro hni hnA))
      have HI0 := Lib.hid hi0
      have HB0 := Lib.hid hB0
      clear hi0 hB0 hni hge hnA
      go_wp2_with (fail)
      generalize hW0 : (wr.alloc (.cells #[.int .i64 0] 3)).alloc (.cells #[.pointer (some ⟨bq, 0, none⟩)] 24) = W0 at *
      generalize hbI : wr.heap.size = bi at *
      clear hW0
      have hB0c : W0.cell? ⟨bi + 1, 0, none⟩ = some (.pointer (some ⟨bq, 0, none⟩)) := cell_is HB0.out 0 rfl
      refine (wpIn_wide (n := 1)).1 ?_
      refine wpIn_rangeNext (gf := 36) (lb := #[.pointer (some ⟨bi + 1, 0, none⟩)]) rfl (enters_of Try.func36 (by kernel_rfl) rfl)
        (QS.all_gives F1 bq bm (bi + 1) _ W0 (E.map Jn.nd) (E.map fun e => (e.t, e.s)) HT0.out.q (by simp [nv, Jn.nd]) (by have := HEL.out; simp; omega) hB0c) KeepBuf.trans (fun W l o o' _ hl ho _ => KeepBuf.putObj W l o o' hl ho) (Below.refl _ _) (fun _ => rfl)
        (fun pre W => W.heap[bi]? = some (.cells #[.int .i64 (pre.length : Int)] 3 (0, 0)) ∧ Fr (fun k => k = bi) W0 W) (fun _ _ _ => False) ?own (fun _ _ _ _ _ h _ _ => h) ⟨HI0.out, Fr.refl _ _⟩ ?round ?done ?stop
      case own =>
        intro s A B row ⟨h1, h2⟩ hg hr
        exact ⟨(hg.block bi (lt_of_heap h1) (fun e => by have := (hr _ e.symm).1; have := lt_of_heap HI0.out; omega)).trans h1, h2.grown hg (fun k e => .inr (hr k e).1)⟩
      case round =>
        rintro l pre x V W ⟨hi, hf⟩ hnx
        obtain ⟨e, he, rfl⟩ := nx_get hnx
        have hpl := (List.getElem?_eq_some_iff.1 he).1
        have hel := HEL.out
        have HTW := Lib.hid (HT0.out.frame hf (fun k h e => HNI.out.2.1.1 (e ▸ h)) (fun k h e => HNI.out.2.1.2.1 (e ▸ h)) (fun k h e => HNI.out.2.1.2.2 (e ▸ h)) (fun e => HNI.out.2.2.1 e.symm) (fun e => HNI.out.2.2.2.1 e.symm) (fun e => HNI.out.2.2.2.2 e.symm) (fun k e => e ▸ HNI.out.1))
        have hj := HLK.out e (List.mem_of_getElem? he)
        have hjl := (List.getElem?_eq_some_iff.1 hj).1
        have i0 : W.cell? ⟨bi, 0, none⟩ = some (.int .i64 (pre.length : Int)) := cell_is hi 0 rfl
        have i1 := frozen_of hi 0
        have r0 : W.cell? ⟨bR, 0, none⟩ = some (.pointer (some ⟨br, 0, none⟩)) := cell_is HTW.out.cR 0 rfl
        have a0 : W.cell? ⟨bA, 0, none⟩ = some (.slice aa all.length ca) := cell_is HTW.out.cA 0 rfl
        obtain ⟨gt, ct, htv, _, _⟩ := HTW.out.r.ts.some (by simp; omega)
        obtain ⟨gs, cs, hsv, _, _⟩ := HTW.out.r.xs.some (by simp; omega)
        subst htv hsv
        obtain ⟨ga, ca', hae, _, _⟩ := HTW.out.ao.some (by omega)
        cases hae
        have q0 : W.cell? ⟨br, 0, none⟩ = some (.slice (some ⟨gt, 0, none⟩) E.length ct) := by have := cell_is HTW.out.r.head 0 rfl; simpa using this
        have q1 : W.cell? ⟨br, 1, none⟩ = some (.slice (some ⟨gs, 0, none⟩) E.length cs) := by have := cell_is HTW.out.r.head 1 rfl; simpa using this
        have t0 : W.cell? ⟨gt, pre.length, none⟩ = some (.int .i64 e.t) := HTW.out.r.ts.cell rfl (by rw [List.getElem?_map, List.getElem?_map, he]; rfl)
        have t1 : W.cell? ⟨gs, pre.length, none⟩ = some (.int .i64 (e.j : Int)) := HTW.out.r.xs.cell rfl (by rw [List.getElem?_map, List.getElem?_map, he]; rfl)
        have t2 : W.cell? ⟨ga, e.j, none⟩ = some (.string e.s) := HTW.out.ao.cell rfl (by rw [List.getElem?_map, hj]; rfl)
        have hd1 : decide (E.length ≤ pre.length) = false := by simp; omega
        have HI := Lib.hid hi
        have HF := Lib.hid hf
        clear hi hf hnx he hj
        generalize e.s = s at *
        generalize e.t = t at *
        generalize e.j = j at *
        gi_wp2
        refine ⟨trivial, ?_⟩
        gi_wp2
        refine wpIn_region_quiet_round (by kernel_rfl) (by kernel_rfl) (by kernel_rfl) ?_
        repeat (gi_big_quiet_step (fail))
        refine wpQuietIn_nil ?_
        rintro _ ⟨nq, rfl⟩
        gi_wp2
        refine ⟨keeps_drewN (KeepsOthers.setCell (W.drewN nq) _ _), KeepBuf.of_fr (((Fr.refl (fun k => k = bi) W).drewN nq).setCell (.inl rfl) _) (fun k cs hk hc => ?_), ?_, (HF.out.drewN nq).setCell (.inl rfl) _⟩
        · subst hk
          exact absurd rfl (ne_of_types HI.out hc (by decide))
        · have := heap_setCell_eq (w := W.drewN nq) 0 (.int .i64 ((pre.length : Int) + 1)) HI.out
          simpa using this
      case done =>
        rintro D ys W hD rfl ⟨hi, hf⟩ hK
        have HTW := Lib.hid (HT0.out.frame hf (fun k h e => HNI.out.2.1.1 (e ▸ h)) (fun k h e => HNI.out.2.1.2.1 (e ▸ h)) (fun k h e => HNI.out.2.1.2.2 (e ▸ h)) (fun e => HNI.out.2.2.1 e.symm) (fun e => HNI.out.2.2.2.1 e.symm) (fun e => HNI.out.2.2.2.2 e.symm) (fun k e => e ▸ HNI.out.1))
        have i0 : W.cell? ⟨bi, 0, none⟩ = some (.int .i64 (E.length : Int)) := by have := cell_is hi 0 rfl; simpa using this
        have r0 : W.cell? ⟨bR, 0, none⟩ = some (.pointer (some ⟨br, 0, none⟩)) := cell_is HTW.out.cR 0 rfl
        have a0 : W.cell? ⟨bA, 0, none⟩ = some (.slice aa all.length ca) := cell_is HTW.out.cA 0 rfl
        have HK := Lib.hid hK
        clear hi hf hK hB0c
        have HEL2 := HEL.out
        cases E with
        | nil =>
          go_wp2_with (fail)
          refine (QS.first_nil F1 bq bm _ W HTW.out.q).mono ?_
          rintro e W2 ⟨rfl, rfl⟩
          obtain ⟨ad, c, rfl⟩ := own_slice HTW.out.r.ts
          have q0 : W.cell? ⟨br, 0, none⟩ = some (.slice ad 0 c) := cell_is HTW.out.r.head 0 rfl
          have o0 := frozen_of HTW.out.cO 0
          have o1 : W.cell? ⟨bo, 0, none⟩ = some (.bool false) := cell_is HTW.out.cO 0 rfl
          go_wp2_with (fail)
          have hDo : D ≠ bo := fun e => by
            have h1 := HK.out
            rw [e, HTW.out.cO] at h1
            cases h1
          have hK' : (W.setCell ⟨bo, 0, none⟩ (.bool true)).heap[D]? = some (.deferred (some [])) := (heap_setCell_ne _ _ _ _ hDo).trans HK.out
          refine ⟨by simp, .inl ⟨_, _, rfl, run_takeDeferred hK', ?_⟩⟩
          have hc5 : ((W.setCell ⟨bo, 0, none⟩ (.bool true)).putObj D (.deferred none)).cell? ⟨bo, 0, none⟩ = some (.bool true) := by
            rw [cell?_putObj _ _ _ _ (Ne.symm hDo)]
            exact World.cell?_setCell_same' _ _ _ (by rw [o1]; rfl)
          refine ⟨.bool true, ?_, rfl, (HTW.out.fr.setCell (.inr HTW.out.go) _).putObj (.inr (Nat.le_trans HT0.out.fr.size hD)) _⟩
          simp [results, Try.f3, go_sem, hc5]
        | cons e E' =>
          go_wp2_with (fail)
          refine (QS.first_cons F1 bq bm _ e.t e.b e.s W (E'.map Jn.nd) HTW.out.q).mono ?_
          rintro e2 W2 ⟨rfl, n2, rfl⟩
          have hj := HLK.out e (by simp)
          have hjl := (List.getElem?_eq_some_iff.1 hj).1
          obtain ⟨gt, ct, htv, _, _⟩ := HTW.out.r.ts.some (by simp)
          obtain ⟨gs, cs, hsv, _, _⟩ := HTW.out.r.xs.some (by simp)
          subst htv hsv
          obtain ⟨ga, ca', hae, _, _⟩ := HTW.out.ao.some (by omega)
          cases hae
          have q0 : W.cell? ⟨br, 0, none⟩ = some (.slice (some ⟨gt, 0, none⟩) (E'.length + 1) ct) := by have := cell_is HTW.out.r.head 0 rfl; simpa using this
          have q1 : W.cell? ⟨br, 1, none⟩ = some (.slice (some ⟨gs, 0, none⟩) (E'.length + 1) cs) := by have := cell_is HTW.out.r.head 1 rfl; simpa using this
          have t0 : W.cell? ⟨gt, 0, none⟩ = some (.int .i64 e.t) := HTW.out.r.ts.cell rfl rfl
          have t1 : W.cell? ⟨gs, 0, none⟩ = some (.int .i64 (e.j : Int)) := HTW.out.r.xs.cell rfl rfl
          have t2 : W.cell? ⟨ga, e.j, none⟩ = some (.string e.s) := HTW.out.ao.cell rfl (by rw [List.getElem?_map, hj]; rfl)
          have o0 := frozen_of HTW.out.cO 0
          have o1 : W.cell? ⟨bo, 0, none⟩ = some (.bool false) := cell_is HTW.out.cO 0 rfl
          clear hj
          simp only [List.length_cons] at i0 HEL2
          have hpos : (((E'.length + 1 : Nat) : Int) == 0) = false := by simp; omega
          go_wp2_with (fail)
          generalize e.s = s at *
          generalize e.t = t at *
          generalize e.j = j at *
          have HT3 := Lib.hid (HTW.out.none ((Fr.refl _ W).drewN n2))
          have HK3 : Hid ((W.drewN n2).heap[D]? = some (.deferred (some []))) := HK
          have i3 : (W.drewN n2).cell? ⟨bi, 0, none⟩ = some (.int .i64 ((E'.length + 1 : Nat) : Int)) := i0
          have r3 : (W.drewN n2).cell? ⟨bR, 0, none⟩ = some (.pointer (some ⟨br, 0, none⟩)) := r0
          have a3 : (W.drewN n2).cell? ⟨bA, 0, none⟩ = some (.slice (some ⟨ga, 0, none⟩) all.length ca) := a0
          have q3 : (W.drewN n2).cell? ⟨br, 0, none⟩ = some (.slice (some ⟨gt, 0, none⟩) (E'.length + 1) ct) := q0
          have q4 : (W.drewN n2).cell? ⟨br, 1, none⟩ = some (.slice (some ⟨gs, 0, none⟩) (E'.length + 1) cs) := q1
          have t3 : (W.drewN n2).cell? ⟨gt, 0, none⟩ = some (.int .i64 t) := t0
          have t4 : (W.drewN n2).cell? ⟨gs, 0, none⟩ = some (.int .i64 (j : Int)) := t1
          have t5 : (W.drewN n2).cell? ⟨ga, j, none⟩ = some (.string s) := t2
          have o3 : (W.drewN n2).frozen? ⟨bo, 0, none⟩ = false := o0
          have o4 : (W.drewN n2).cell? ⟨bo, 0, none⟩ = some (.bool false) := o1
          clear i0 r0 a0 q0 q1 t0 t1 t2 o0 o1 HK HTW
          generalize W.drewN n2 = W3 at *
          go_still_tail 36, (by kernel_rfl)
          change wpList _ _ _ _ _ W3.drew
          go_wp2_with (fail)
          have hDo : D ≠ bo := fun e => by
            have h1 := HK3.out
            rw [e, HT3.out.cO] at h1
            cases h1
          have hK' : (W3.setCell ⟨bo, 0, none⟩ (.bool true)).drew.heap[D]? = some (.deferred (some [])) := (heap_setCell_ne _ _ _ _ hDo).trans HK3.out
          refine ⟨by simp, .inl ⟨_, _, rfl, run_takeDeferred hK', ?_⟩⟩
          have hc5 : ((W3.setCell ⟨bo, 0, none⟩ (.bool true)).drew.putObj D (.deferred none)).cell? ⟨bo, 0, none⟩ = some (.bool true) := by
            rw [cell?_putObj _ _ _ _ (Ne.symm hDo)]
            exact World.cell?_setCell_same' W3 _ _ (by rw [o4]; rfl)
          refine ⟨.bool true, ?_, rfl, ((HT3.out.fr.setCell (.inr HT3.out.go) _).drew).putObj (.inr (Nat.le_trans HT0.out.fr.size hD)) _⟩
          simp [results, Try.f3, go_sem, hc5]
      case stop =>
        rintro D c pre W _ _ h _
        exact h.elim

end Go.Proofs.Ytolonoabipnpfaa
