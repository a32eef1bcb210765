/- The queue's Clone at one type of things. -/
import Derived.Test.YtolonoabipnpfaaQIIter
import Derived.Test.YtolonoabipnpfaaQFoot
import Derived.BigRegion
namespace Go.Proofs.Ytolonoabipnpfaa.QI
open Go.RowKit Go.Sb
attribute [local go_sem] Oper.semAt_some

set_option maxRecDepth 100000 in
set_option maxHeartbeats 1000000 in
theorem clone_any (F : Nat → Prop) (bq bm : Nat) (g : Int) (w : World) (ls : List Nd) (xs : List (Int × Int)) (h : QRep 93 96 F w bq g ls bm) (hx : ls.map nv = xs.map (fun x => (x.1, .int .i64 x.2))) (hlen : xs.length ≤ 4398046511104) :
    Calls Try.prog 49 #[.pointer (some ⟨bq, 0, none⟩)] w fun e w' => ∃ bc bmc ls', e = .returned (.pointer (some ⟨bc, 0, none⟩)) ∧ QRep 93 96 (fun k => w.heap.size ≤ k) w' bc g ls' bmc ∧ ls'.map nv = ls.map nv ∧ Fr (fun _ => False) w w' := by
  have HQ := Lib.hid h
  have HX := Lib.hid hx
  have HL := Lib.hid hlen
  clear h hx hlen
  refine calls_of_marks Try.func49 rfl ?_
  simp only [Try.ntmps49, List.size_toArray, List.length_cons, List.length_nil, Nat.reduceAdd, Nat.reduceSub, Array.replicate_succ, Array.replicate_zero, List.push_toArray, List.append_toArray, List.nil_append, List.cons_append]
  go_wp2_with (fail)
  refine (new_any (fun k => w.heap.size ≤ k) w (fun k h => h)).mono ?_
  rintro e w1 ⟨rfl, hq1, hf1⟩
  have HQ1 := Lib.hid hq1
  have HF1 := Lib.hid hf1
  clear hq1 hf1
  generalize hbc : w.heap.size + 1 = bc at *
  generalize hbm : w.heap.size = bmc at *
  go_wp2_with (fail)
  refine (all_any bq _).mono ?_
  rintro e wY ⟨rfl, rfl⟩
  have hO := heap_alloc_lt (w1.alloc (.cells #[.pointer (some ⟨bc, 0, none⟩)] 45)) (.cells #[.pointer (some ⟨bq, 0, none⟩)] 45) w1.heap.size (by simp)
  rw [heap_alloc_eq] at hO
  have hB := heap_alloc_eq (w1.alloc (.cells #[.pointer (some ⟨bc, 0, none⟩)] 45)) (.cells #[.pointer (some ⟨bq, 0, none⟩)] 45)
  rw [World.size_alloc] at hB
  have hfr : Fr (fun _ => False) w1 ((w1.alloc (.cells #[.pointer (some ⟨bc, 0, none⟩)] 45)).alloc (.cells #[.pointer (some ⟨bq, 0, none⟩)] 45)) := ((Fr.refl _ _).alloc _).alloc _
  have hsz : ((w1.alloc (.cells #[.pointer (some ⟨bc, 0, none⟩)] 45)).alloc (.cells #[.pointer (some ⟨bq, 0, none⟩)] 45)).heap.size = w1.heap.size + 1 + 1 := by simp
  have hb1 : bmc < w1.heap.size := HQ1.out.places.lt
  have HO := Lib.hid hO
  have HB := Lib.hid hB
  have HFR := Lib.hid (HF1.out.trans hfr (fun _ _ h => h))
  have HQC := Lib.hid (HQ1.out.fr hfr (fun _ _ _ h => h))
  have HSZ := Lib.hid hsz
  clear hO hB hfr hsz
  go_wp2_with (fail)
  generalize hW0 : (w1.alloc (.cells #[.pointer (some ⟨bc, 0, none⟩)] 45)).alloc (.cells #[.pointer (some ⟨bq, 0, none⟩)] 45) = W0 at *
  generalize hbO : w1.heap.size = bO at *
  clear hW0
  have hB0c : W0.cell? ⟨bO + 1, 0, none⟩ = some (.pointer (some ⟨bq, 0, none⟩)) := cell_is HB.out 0 rfl
  have HQ0 := Lib.hid (HQ.out.fr HFR.out (fun _ _ _ h => h))
  have hkeys : ((xs.map (fun x => ((x.1, .int .i64 x.2) : Int × Value))).map Prod.fst).Nodup := by
    rw [← HX.out, List.map_map]
    exact HQ.out.keys
  refine (wpIn_wide (n := 1)).1 ?_
  refine wpIn_rangeNext (gf := 43) (lb := #[.pointer (some ⟨bO + 1, 0, none⟩)]) rfl (enters_of Try.func43 (by kernel_rfl) rfl)
    (all_gives F bq bm (bO + 1) _ W0 ls xs HQ0.out HX.out HL.out hB0c) KeepBuf.trans (fun W l o o' _ hl ho _ => KeepBuf.putObj W l o o' hl ho) (Below.refl _ _) (fun _ => rfl)
    (fun pre W => ClSt 93 96 45 w bc bmc bO (pre.map fun x => ((x.1, .int .i64 x.2) : Int × Value)) W) (fun _ _ _ => False)
    (ClSt.own (bmc := bmc) (bO := bO) (fun pre : List (Int × Int) => pre.map fun x => ((x.1, .int .i64 x.2) : Int × Value)) (by have := HSZ.out; omega) (by have := HSZ.out; omega) HFR.out.size) (fun _ _ _ _ _ h _ _ => h) ⟨⟨[], HQC.out.mono (fun k _ h => by rw [hbm]; exact h), rfl⟩, HO.out, HFR.out⟩ ?round ?done ?stop
  case round =>
    rintro l pre x V W ⟨⟨lc, hq, hlc⟩, ho, hf⟩ hnx
    have ho0 : W.cell? ⟨bO, 0, none⟩ = some (.pointer (some ⟨bc, 0, none⟩)) := cell_is ho 0 rfl
    have HNK : Hid (x.1 ∉ lc.map Nd.t) := by
      have h1 := nx_keys hnx hkeys
      rw [← hlc, List.map_map] at h1
      exact h1
    have HQW := Lib.hid hq
    have HOW := Lib.hid ho
    have HFW := Lib.hid hf
    have HLC := Lib.hid hlc
    clear hq ho hf hlc hnx hkeys
    obtain ⟨x1, x2⟩ := x
    gi_wp2
    refine ⟨trivial, ?_⟩
    gi_wp2
    refine ⟨rfl, (CallsIn.inRound l (callsIn_wide.2 (lay_any (foot bc bmc lc) bc bmc 0 x1 x2 W lc HQW.out.exact HNK.out))).mono ?_⟩
    rintro e W2 ⟨rfl, hq2, hf2⟩
    have HQ2 := Lib.hid hq2
    have HF2 := Lib.hid hf2
    clear hq2 hf2
    gi_wp2
    have hno := HQW.out.foot_not HOW.out (by decide) (by decide)
    refine ⟨HQW.out.keepsFrom HF2.out (by have := HSZ.out; omega), HQW.out.keepBuf (by decide) HF2.out, ⟨_, HQ2.out.mono (fun k _ hk => hk.elim (fun h => HQW.out.foot_in k h) (fun h => Nat.le_trans HFW.out.size h)), ?_⟩, HF2.out.get HOW.out hno, HFW.out.trans HF2.out (fun k hk h => absurd (HQW.out.foot_in k h) (by omega))⟩
    rw [List.map_append, List.map_append, HLC.out]
    rfl
  case done =>
    rintro D ys W hD rfl ⟨⟨lc, hq, hlc⟩, ho, hf⟩ hK
    have ho0 : W.cell? ⟨bO, 0, none⟩ = some (.pointer (some ⟨bc, 0, none⟩)) := cell_is ho 0 rfl
    have HQW := Lib.hid hq
    have HQQ := Lib.hid (HQ.out.fr hf (fun _ _ _ h => h))
    have HOW := Lib.hid ho
    have HFW := Lib.hid hf
    have HLC := Lib.hid hlc
    have HK := Lib.hid hK
    have g0 : W.cell? ⟨bq, 3, none⟩ = some (.int .i64 g) := cell_is HQQ.out.head 3 rfl
    have g1 : W.cell? ⟨bc, 3, none⟩ = some (.int .i64 0) := cell_is HQW.out.head 3 rfl
    have g2 := frozen_of HQW.out.head 3
    clear hq ho hf hlc hkeys hK
    go_wp2_with (fail)
    go_region
    all_goals
      go_wp2_with (fail)
      have hDo : D ≠ bc := fun e => by
        have h1 := HK.out
        rw [e, HQW.out.head] at h1
        cases h1
      have hK' : (W.setCell ⟨bc, 3, none⟩ (.int .i64 g)).drew.heap[D]? = some (.deferred (some [])) := (heap_setCell_ne _ _ _ _ hDo).trans HK.out
      refine ⟨by simp, .inl ⟨_, _, rfl, run_takeDeferred hK', ?_⟩⟩
      have hDb : D ≠ bmc := by have := HSZ.out; omega
      have hfin : QRep 93 96 (fun k => w.heap.size ≤ k) ((W.setCell ⟨bc, 3, none⟩ (.int .i64 g)).drew.putObj D (.deferred none)) bc g lc bmc := by
        have h1 : QRep 93 96 (fun k => w.heap.size ≤ k) (W.setCell ⟨bc, 3, none⟩ (.int .i64 g)).drew bc g lc bmc := (HQW.out.given (by decide) g).of (fun _ _ _ => rfl)
        refine (h1.exact.of (fun k hk hft => heap_putObj_ne _ _ _ _ (fun e => ?_))).mono (fun k hk hft => h1.foot_in k hft)
        subst e
        exact hDb (h1.foot_map hft hK' rfl)
      refine ⟨.pointer (some ⟨bc, 0, none⟩), ?_, bc, bmc, lc, rfl, hfin, ?_, (((HFW.out.setCell (.inr HQW.out.fq) _).drew).putObj (.inr (Nat.le_trans HFR.out.size hD)) _)⟩
      · simp [results, Try.f49, go_sem]
      · rw [HLC.out, HX.out]
  case stop =>
    rintro D c pre W _ _ h _
    exact h.elim

end Go.Proofs.Ytolonoabipnpfaa.QI
