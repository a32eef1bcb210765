/- The laws' gives: three ranges over one iterator. -/
import Derived.Test.YtgobbgklmjnnlaaFrGives0
import Derived.Laws.EntriesVeiled
namespace Go.Proofs.Ytgobbgklmjnnlaa
open Go.RowKit Go.Sb
attribute [local go_sem] Oper.semAt_some

set_option maxRecDepth 100000 in
set_option maxHeartbeats 4000000 in
theorem gives_any (file : Int) (ba : Option Addr) (bc : Nat) (bs : List UInt8) (wa : Option Addr) (wc : Nat) (ws : List Fd) (most : Int) (h : Nat) (Fw : Nat → Prop) (w : World) (hb : RB w (.slice ba bs.length bc) bs) (hm : bs.length ≤ 1048576)
    (hw : WRep Fw w (.slice wa ws.length wc) ws) (hk : ws.map Fd.key = frames file 0 bs) (hmost : 1 ≤ most) (hmost2 : most ≤ 9223372036854775807) (hh : w.heap[h]? = some (.cells #[.slice none 0 0, .slice none 0 0] 29 (0, 0))) :
    Calls Try.prog 30 #[.int .i64 file, .slice ba bs.length bc, .slice wa ws.length wc, .int .i64 most, .pointer (some ⟨h, 0, none⟩)] w fun e w' => e = .returned (.bool true) ∧
      (∃ vo vw L B, w.heap.size ≤ B ∧ B ≤ w'.heap.size ∧ Held 29 22 5 (fun k => k = h ∨ B ≤ k) w' (fun _ => True) h vo vw [] L ∧ Lim 66008 L ∧ L.length ≤ 2097152) ∧ Fr (fun k => k = h) w w' := by
  have HB := Lib.hid hb
  have HW := Lib.hid hw
  have hwl : ws.length ≤ 1048576 := by
    have h1 := (frames_le file bs.length 0 bs).2.2
    have h2 : ws.length = (fsAt file bs.length 0 bs).length := by
      have := congrArg List.length hk
      simpa [frames] using this
    omega
  have HK := Lib.hid hk
  have HH := Lib.hid hh
  have hhl := lt_of_heap hh
  clear hb hw hk hh
  have HX0 := Lib.hid (gbox_new w (.slice wa ws.length wc) most h)
  have HF0 : Hid (Fr (fun _ => False) w ((((w.alloc (.cells #[.slice wa ws.length wc] 44)).alloc (.cells #[.int .i64 most] 3)).alloc (.cells #[.pointer (some ⟨h, 0, none⟩)] 48)).alloc (.cells #[.bool false] 4))) := Lib.hid (((((Fr.refl _ w).alloc _).alloc _).alloc _).alloc _)
  refine calls_of_marks Try.func30 rfl ?_
  simp only [Try.ntmps30, List.size_toArray, List.length_cons, List.length_nil, Nat.reduceAdd, Nat.reduceSub, Array.replicate_succ, Array.replicate_zero, List.push_toArray, List.append_toArray, List.nil_append, List.cons_append]
  go_wp2_with (fail)
  refine (lent_any _ bs _ (HB.out.fr HF0.out) (by omega)).mono ?_
  rintro e w2 ⟨v11, rfl, hv, hf, hn⟩
  obtain ⟨g, c, rfl⟩ := own_nn' hv hn
  have hcut := OB.cutn (n := bs.length) hv (by simp)
  rw [List.take_left] at hcut
  have hgb := (Own.block hv g rfl).1
  simp at hgb
  have HV := Lib.hid hv
  have HI := Lib.hid hcut
  have HX2 := Lib.hid (HX0.out.kept hf (fun _ _ _ h => h))
  have HF2 := Lib.hid (HF0.out.trans hf (fun _ _ h => h))
  have hgl := (Own.block hv g rfl).2
  clear hv hf hn hcut HX0 HF0
  generalize hb7 : w.heap.size = b7 at *
  have hl8 : (bs ++ List.replicate 8 (0xA5 : UInt8)).length = bs.length + 8 := by simp
  have hcap : bs.length + 8 ≤ c ∧ c ≤ maxLen := by
    rcases HV.out.2 with ⟨h, _⟩ | ⟨g', cap, cur, h, _, _, h1, h2, _⟩
    · cases h
    · cases h
      rw [hl8] at h1
      exact ⟨h1, h2⟩
  unfold maxLen at hcap
  rw [hl8]
  rw [hl8] at HV
  go_wp2_with (fail)
  have hnf := run_eql_func_nil (P := Try.prog) Try.underlying53
  refine (all_fr file ⟨g, 0, none⟩ bs.length c bs _ HI.out.rb (by omega)).mono ?_
  rintro e w3 ⟨bf, bo, ga, ca, rfl, hF, hO, ho, hf3, hgf, hgo⟩
  have HX3 := Lib.hid (HX2.out.kept hf3 (fun _ _ _ h => h))
  have HF3 := Lib.hid (HF2.out.trans hf3 (fun _ _ h => h))
  have HV3 : Hid (OB 5 (fun _ => True) w3 (.slice (some ⟨g, 0, none⟩) (bs.length + 8) c) (bs ++ List.replicate 8 0xA5)) := Lib.hid (Own.mono (Own.fr HV.out hf3 (fun _ _ _ h => h)) (fun _ _ _ => trivial))
  have hs3 := hf3.size
  -- the world with the iterator's box
  have hn13 := heap_alloc_eq w3 (.cells #[.nilFunc] 53)
  have k13 : (w3.alloc (.cells #[.nilFunc] 53)).cell? ⟨w3.heap.size, 0, none⟩ = some .nilFunc := cell_is hn13 0 rfl
  have z13 := frozen_of hn13 0
  have h13 := heap_setCell_eq 0 (.func (.func 46) #[] #[.pointer (some ⟨bf, 0, none⟩), .pointer (some ⟨bo, 0, none⟩)]) hn13
  simp only [List.setIfInBounds_toArray, List.set_cons_zero] at h13
  have hf4 : Fr (fun _ => False) w3 ((w3.alloc (.cells #[.nilFunc] 53)).setCell ⟨w3.heap.size, 0, none⟩ (.func (.func 46) #[] #[.pointer (some ⟨bf, 0, none⟩), .pointer (some ⟨bo, 0, none⟩)])) := ((Fr.refl (fun _ => False) w3).alloc _).setCell (p := ⟨w3.heap.size, 0, none⟩) (.inr (Nat.le_refl _)) _
  generalize hw4 : (w3.alloc (.cells #[.nilFunc] 53)).setCell ⟨w3.heap.size, 0, none⟩ (.func (.func 46) #[] #[.pointer (some ⟨bf, 0, none⟩), .pointer (some ⟨bo, 0, none⟩)]) = w4 at *
  have c13 : w4.cell? ⟨w3.heap.size, 0, none⟩ = some (.func (.func 46) #[] #[.pointer (some ⟨bf, 0, none⟩), .pointer (some ⟨bo, 0, none⟩)]) := cell_is h13 0 rfl
  have HX4 := Lib.hid (HX3.out.kept hf4 (fun _ _ _ h => h))
  have HF4 := Lib.hid (HF3.out.trans hf4 (fun _ _ h => h))
  have HV4 := Lib.hid (Own.fr (show Sb.Own 5 1 (fun _ => True) w3 (.slice (some ⟨g, 0, none⟩) (bs.length + 8) c) _ _ from by have := HV3.out; unfold OB at this; rwa [hl8] at this) hf4 (fun _ _ _ h => h))
  have H13 := Lib.hid h13
  have HFF := Lib.hid (hf4.get hF id)
  have HOO := Lib.hid (hf4.get hO id)
  have HOB := Lib.hid (Own.fr ho hf4 (fun _ _ _ h => h))
  have hbl := lt_of_heap hF
  have hol := lt_of_heap hO
  have hgal := (Own.block ho ga rfl)
  have hST := still_any (.slice (some ⟨g, 0, none⟩) (bs.length + 8) c) (.slice ba bs.length bc) bs w4 (by have := HV3.out.rb.fr hf4; exact this) (HB.out.fr HF4.out)
  have HST := Lib.hid hST
  clear hF hO ho hf3 hf4 h13 hn13 hST HX2 HX3 HF2 HF3 HV HI HV3
  generalize hb13 : w3.heap.size = b13 at *
  go_wp2_with (fail)
  refine HST.out.mono ?_
  rintro e w5 ⟨rfl, m5, rfl⟩
  have hg2 : bs.length + 8 ≤ c := hcap.1
  clear HST k13 z13
  go_wp2_with (fail)
  go_loopw [14] (fun i wr => WrRel w4 g (.slice (some ⟨g, 0, none⟩) (bs.length + 8) c) (bs.length + 8) i wr) (fun i _ => bs.length + 8 - (intOf i).toNat)
  case atStart => exact ⟨0, _, rfl, Nat.zero_le _, hl8, by unfold OB; rw [hl8]; exact HV4.out.drewN m5, (Fr.refl _ _).drewN m5⟩
  case round =>
    obtain ⟨k, zs, rfl, hk, hz, hv, hf⟩ := hrel
    by_cases hlt : k < bs.length + 8
    · have hc : wr.cell? ⟨g, k, none⟩ = some (byte (zs[k]'(by omega))) := hv.cell rfl (by simp [hz, hlt])
      have hfz := hv.frozen rfl k
      have hst : Sb.OB 5 (fun _ => True) (wr.setCell ⟨g, k, none⟩ (.int .u8 90)) (.slice (some ⟨g, 0, none⟩) (bs.length + 8) c) (zs.set k 90) := by
        unfold OB
        rw [List.length_set, List.map_set]
        exact Own.set (u := byte 90) hv rfl (by omega)
      have HSET := Lib.hid hst
      have HFS := Lib.hid (hf.setCell (p := ⟨g, k, none⟩) (.inl rfl) (.int .u8 90))
      clear hv hf hst
      unfold byte at hc
      generalize zs[k]'(by omega) = x at *
      go_wp2_with (fail)
      go_roundw
      case rel => exact ⟨k + 1, _, by simp, hlt, by simpa using hz, HSET.out, HFS.out⟩
      case measure => simp [intOf]; omega
    · have hf6 : Fr (fun x => x = g) w4 wr := hf
      have hFw : Fr (fun _ => False) w wr := HF4.out.trans hf6 (fun k hk e => by omega)
      have hf7 : Fr (fun _ => False) wr (wr.alloc (.cells #[.int .i64 0] 3)) := (Fr.refl _ wr).alloc _
      have hs6 := hf6.size
      have hl13 := lt_of_heap H13.out
      have hb7 : w.heap.size = b7 := hb7
      have hall6 : GAll file bs b7 h b13 bf bo ga ca wr.heap.size (wr.heap.size + 1) (.slice wa ws.length wc) most ws wr :=
        ⟨HX4.out.kept hf6 (fun k _ hk e => by omega), hf6.get H13.out (fun e => by omega), hf6.get HFF.out (fun e => by omega), hf6.get HOO.out (fun e => by omega),
          Own.fr (own_here HOB.out) hf6 (fun k _ hk e => by omega), by have h9 := (HW.out.apart HH.out).fr hFw (fun _ _ _ h => h); rwa [hb7] at h9, by omega⟩
      have hall := hall6.kept hf7 (fun _ _ _ h => h)
      have hH7 := (hFw.trans hf7 (fun _ _ h => h)).get HH.out id
      have HA := Lib.hid hall
      have HS := Lib.hid (gst_start (b15 := wr.heap.size) hH7)
      have HR0 : Hid (Fr (fun _ => False) w (wr.alloc (.cells #[.int .i64 0] 3))) := Lib.hid (hFw.trans hf7 (fun _ _ h => h))
      have e13 : (wr.alloc (.cells #[.int .i64 0] 3)).cell? ⟨b13, 0, none⟩ = some (.func (.func 46) #[] #[.pointer (some ⟨bf, 0, none⟩), .pointer (some ⟨bo, 0, none⟩)]) := cell_is hall.c13 0 rfl
      have h15 := heap_alloc_eq wr (.cells #[.int .i64 0] 3)
      have H15 := Lib.hid h15
      have hB := World.size_alloc wr (.cells #[.int .i64 0] 3)
      have hnum := hall.num
      clear hv hf hf6 hFw hf7 hall6 hall hH7 h15 HX4 H13 HFF HOO HOB HV4 HF4 hgal hcap c13 hl13 hs6 hs3 hnf
      generalize hb15 : wr.heap.size = b15 at *
      go_wp2_with (fail)
      generalize hw7 : wr.alloc (.cells #[.int .i64 0] 3) = w7 at *
      refine (wpIn_wide (n := 1)).1 ?_
      refine wpIn_rangeFresh (gf := 46) (lb := #[.pointer (some ⟨bf, 0, none⟩), .pointer (some ⟨bo, 0, none⟩)]) rfl (enters_of Try.func46 (by kernel_rfl) rfl)
        (all_fresh file bs bf bo ga ca w7 HA.out.cF HA.out.cO HA.out.any (by omega)) KeepAt.trans (keepAt_put (fdOwn_lt HA.out.cF HA.out.cO HA.out.any)) (Below.refl _ _) (fun _ => rfl)
        (fun pre W => GSt w7 h b15 pre.length W ∧ W.heap[b15]? = some (.cells #[.int .i64 (pre.length : Int)] 3 (0, 0)) ∧ (pre.length : Int) < most)
        (fun c pre W => c = .exit 2 ∧ GSt w7 h b15 pre.length W ∧ W.heap[b15]? = some (.cells #[.int .i64 most] 3 (0, 0)) ∧ pre.length ≤ ws.length) ?own ?own2 ⟨HS.out, H15.out, by simp; omega⟩
        (FdNext.fr) (fun _ _ _ _ _ _ h hr => FdNext.put _ _ _ _ _ _ h hr) ?round ?done ?stop
      case own =>
        intro s A B row ⟨h1, h2, h3⟩ hg hr
        exact ⟨h1.grown hg hr, (hg.block _ (lt_of_heap h2) (fun e => by have := (hr _ e.symm).1; omega)).trans h2, h3⟩
      case own2 =>
        intro c0 s A B row ⟨h0, h1, h2, h3⟩ hg hr
        exact ⟨h0, h1.grown hg hr, (hg.block _ (lt_of_heap h2) (fun e => by have := (hr _ e.symm).1; omega)).trans h2, h3⟩
      case round =>
        rintro l pre x V W1 W ⟨hs, hi, hlt⟩ ⟨hx, hox, hfx⟩
        obtain ⟨y, hy, hyp, hyx, hyl, hys⟩ := next_is HK.out hx
        have hsW := hs.later hfx
        have hiW := hfx.get hi id
        have hallW := HA.out.kept hsW.fr (fun k h1 h2 h3 => by rcases h3 with h3 | h3 <;> omega)
        obtain ⟨gw, cw, hwe, k1, k2, hc1, hc2⟩ := hallW.want.at hy
        cases hwe
        obtain ⟨xp, xs, xv⟩ := x
        obtain ⟨yp, ys, yv⟩ := y
        dsimp only at hyp hyx k1 k2 hys hox
        subst hyp hyx
        have hyo : OB 5 (fun k => k < b7 ∧ k ≠ h) W yv ys := hallW.want.each _ (List.mem_of_getElem? hy)
        have hsm := same_any _ _ _ _ W hox.rb hyo.rb
        rw [decide_eq_true rfl] at hsm
        have HSM := Lib.hid hsm
        clear hsm
        obtain ⟨xa, xc, rfl⟩ := ob_shape hox
        obtain ⟨ya, yc, rfl⟩ := ob_shape hyo
        have i7 : W.cell? ⟨b7, 0, none⟩ = some (.slice (some ⟨gw, 0, none⟩) ws.length wc) := cell_is hallW.box.c7 0 rfl
        have i8 : W.cell? ⟨b7 + 1, 0, none⟩ = some (.int .i64 most) := cell_is hallW.box.c8 0 rfl
        have i9 : W.cell? ⟨b7 + 1 + 1, 0, none⟩ = some (.pointer (some ⟨h, 0, none⟩)) := cell_is hallW.box.c9 0 rfl
        have i0 : W.cell? ⟨b15, 0, none⟩ = some (.int .i64 (pre.length : Int)) := cell_is hiW 0 rfl
        have HSW := Lib.hid hs
        have HFX := Lib.hid hfx
        have HOX := Lib.hid hox
        have HIW := Lib.hid hiW
        have HAW := Lib.hid hallW
        have hlt' : (pre.length : Int) < (ws.length : Int) := by omega
        clear hs hi hx hox hfx hsW hiW hallW hy hyo
        gi_wp2
        refine ⟨trivial, ?_⟩
        gi_wp2
        refine ⟨trivial, rfl, CallsIn.mono (show CallsIn (Fence.wide.inRound l) 0 Try.prog 20 _ W _ from callsIn_wide.2 HSM.out) ?_⟩
        rintro e W2 ⟨rfl, j, rfl⟩
        gi_wp2
        refine ⟨trivial, rfl, CallsIn.mono (show CallsIn (Fence.wide.inRound l) 0 Try.prog 22 _ (W.drewN j) _ from callsIn_wide.2 (HSW.out.keep (HFX.out.drewN j) (Own.drewN HOX.out j) (by omega) (by omega))) ?_⟩
        rintro e W3 ⟨rfl, hg3, hf3, hkf3⟩
        have n15 : ∀ k, k < b15 + 1 → k ≠ h → ¬ (k = h ∨ w7.heap.size ≤ k) := fun k h1 h2 h3 => by omega
        have h15' : W3.heap[b15]? = some (.cells #[.int .i64 (pre.length : Int)] 3 (0, 0)) := hf3.get (show (W.drewN j).heap[b15]? = _ from HIW.out) (n15 _ (by omega) (by omega))
        have i0' : W3.cell? ⟨b15, 0, none⟩ = some (.int .i64 (pre.length : Int)) := cell_is h15' 0 rfl
        have z15 := frozen_of h15' 0
        have h15s := heap_setCell_eq 0 (.int .i64 ((pre.length : Int) + 1)) h15'
        simp only [List.setIfInBounds_toArray, List.set_cons_zero] at h15s
        have i0s : (W3.setCell ⟨b15, 0, none⟩ (.int .i64 ((pre.length : Int) + 1))).cell? ⟨b15, 0, none⟩ = some (.int .i64 ((pre.length : Int) + 1)) := cell_is h15s 0 rfl
        have h8' : W3.heap[b7 + 1]? = some (.cells #[.int .i64 most] 3 (0, 0)) := hf3.get (show (W.drewN j).heap[b7 + 1]? = _ from HAW.out.box.c8) (n15 _ (by omega) (by omega))
        have i8s : (W3.setCell ⟨b15, 0, none⟩ (.int .i64 ((pre.length : Int) + 1))).cell? ⟨b7 + 1, 0, none⟩ = some (.int .i64 most) := cell_is ((heap_setCell_ne _ _ _ _ (show b7 + 1 ≠ b15 by omega)).trans h8') 0 rfl
        have hK3 : KeepsFrom w7.heap.size W (W3.setCell ⟨b15, 0, none⟩ (.int .i64 ((pre.length : Int) + 1))) := by
          refine ⟨by have := hkf3.size; simpa using this, fun k o h1 h2 h3 => ?_⟩
          exact (heap_setCell_ne _ _ _ _ (show k ≠ b15 by omega)).trans (hkf3.same k o (Nat.zero_le _) h2 h3)
        have hA3 : KeepAt (fdOwn bf bo (.slice (some ⟨ga, 0, none⟩) bs.length ca)) W (W3.setCell ⟨b15, 0, none⟩ (.int .i64 ((pre.length : Int) + 1))) := by
          refine ⟨by have := hkf3.size; simpa using this, fun k hk => ?_⟩
          obtain ⟨o1, o2, o3⟩ := HAW.out.own k hk
          exact (heap_setCell_ne _ _ _ _ (show k ≠ b15 by omega)).trans (hf3.block k (by simpa using o3) (n15 _ (by omega) o1))
        have hS3 := hg3.setN (by omega) (by omega) (.int .i64 ((pre.length : Int) + 1))
        have HK3 := Lib.hid hK3
        have HA3 := Lib.hid hA3
        have HS3 := Lib.hid hS3
        have H15s := Lib.hid h15s
        clear hg3 hf3 hkf3 hK3 hA3 hS3 h15s h15' h8' n15
        by_cases hmx : (pre.length : Int) + 1 = most
        · subst hmx
          gi_wp2
          refine ⟨HK3.out, rfl, by simpa using HS3.out, by simpa using H15s.out, by simp; omega⟩
        · have hmx2 : (((pre.length : Int) + 1) == most) = false := by simpa using hmx
          gi_wp2
          refine ⟨HK3.out, HA3.out, by simpa using HS3.out, by simpa using H15s.out, by simp; omega⟩
      case' done =>
        rintro D ys W hD hys ⟨hs, hi, hlt⟩ hKD
        have hyl : ys.length = ws.length := by
          have := congrArg List.length (hys.trans HK.out.symm)
          simpa using this
        rw [hyl] at hs hi hlt
        have HSW := Lib.hid hs
        have hall := HA.out.kept hs.fr (fun k h1 h2 h3 => by rcases h3 with h3 | h3 <;> omega)
        have HAW := Lib.hid hall
        have i0 : W.cell? ⟨b15, 0, none⟩ = some (.int .i64 (ws.length : Int)) := cell_is hi 0 rfl
        have z0 := frozen_of hi 0
        have i7 : W.cell? ⟨b7, 0, none⟩ = some (.slice wa ws.length wc) := cell_is hall.box.c7 0 rfl
        have i8 : W.cell? ⟨b7 + 1, 0, none⟩ = some (.int .i64 most) := cell_is hall.box.c8 0 rfl
        have hne : (((ws.length : Int)) != most) = true := by simp; omega
        have HI := Lib.hid (⟨_, hi⟩ : ∃ z, W.heap[b15]? = some (.cells #[.int .i64 z] 3 (0, 0)))
        have i13 : (W.setCell ⟨b15, 0, none⟩ (.int .i64 0)).cell? ⟨b13, 0, none⟩ = some (.func (.func 46) #[] #[.pointer (some ⟨bf, 0, none⟩), .pointer (some ⟨bo, 0, none⟩)]) := cell_is ((heap_setCell_ne _ _ _ _ (show b13 ≠ b15 by omega)).trans hall.c13) 0 rfl
        have HKD := Lib.hid hKD
        clear hs hi hall hys hKD
        go_wp2_with (fail)
      case' stop =>
        rintro D c0 pre W hD _ ⟨rfl, hs, hi, hle⟩ hKD
        have HSW : Hid (GSt w7 h b15 ws.length W) := Lib.hid (hs.mono hle)
        have hall := HA.out.kept hs.fr (fun k h1 h2 h3 => by rcases h3 with h3 | h3 <;> omega)
        have HAW := Lib.hid hall
        have i0 : W.cell? ⟨b15, 0, none⟩ = some (.int .i64 most) := cell_is hi 0 rfl
        have z0 := frozen_of hi 0
        have i7 : W.cell? ⟨b7, 0, none⟩ = some (.slice wa ws.length wc) := cell_is hall.box.c7 0 rfl
        have i8 : W.cell? ⟨b7 + 1, 0, none⟩ = some (.int .i64 most) := cell_is hall.box.c8 0 rfl
        have hne : (most != most) = false := by simp
        have HI := Lib.hid (⟨_, hi⟩ : ∃ z, W.heap[b15]? = some (.cells #[.int .i64 z] 3 (0, 0)))
        have i13 : (W.setCell ⟨b15, 0, none⟩ (.int .i64 0)).cell? ⟨b13, 0, none⟩ = some (.func (.func 46) #[] #[.pointer (some ⟨bf, 0, none⟩), .pointer (some ⟨bo, 0, none⟩)]) := cell_is ((heap_setCell_ne _ _ _ _ (show b13 ≠ b15 by omega)).trans hall.c13) 0 rfl
        have HKD := Lib.hid hKD
        clear hs hi hall hKD
        gi_wp2
        go_wp2_with (fail)
      all_goals
        obtain ⟨z, hz⟩ := HI.out
        have hf8 : Fr (fun k => k = b15) W (W.setCell ⟨b15, 0, none⟩ (.int .i64 0)) := (Fr.refl (fun k => k = b15) _).setCell (p := ⟨b15, 0, none⟩) (.inl rfl) _
        have h15 := heap_setCell_eq 0 (.int .i64 0) hz
        simp only [List.setIfInBounds_toArray, List.set_cons_zero] at h15
        have HS8 := Lib.hid (HSW.out.setN (by omega) (by omega) (.int .i64 0))
        have HA8 := Lib.hid (HAW.out.kept hf8 (fun k _ h2 h3 => by omega))
        have H158 := Lib.hid h15
        have hD8 : D ≠ b15 := by omega
        have HD8 := Lib.hid ((hf8.block D (lt_of_heap HKD.out) hD8).trans HKD.out)
        have hsz8 := hf8.size
        have hszW := HSW.out.fr.size
        clear HI hz hf8 h15 HSW HAW HKD i0 z0 i7 i8 i13
        generalize hw8 : W.setCell ⟨b15, 0, none⟩ (.int .i64 0) = w8 at *
        have hDl := lt_of_heap HD8.out
        refine (wpIn_wide (n := 1)).1 ?_
        refine wpIn_rangeFreshH (gf := 46) (lb := #[.pointer (some ⟨bf, 0, none⟩), .pointer (some ⟨bo, 0, none⟩)]) rfl (enters_of Try.func46 (by kernel_rfl) rfl)
          (all_fresh file bs bf bo ga ca w8 HA8.out.cF HA8.out.cO HA8.out.any (by omega)) KeepAt.trans (keepAt_put (fdOwn_lt HA8.out.cF HA8.out.cO HA8.out.any)) (Below.refl _ _) (fun _ => rfl)
          (fun pre W => GSt w7 h b15 (ws.length + pre.length) W ∧ W.heap[b15]? = some (.cells #[.int .i64 (pre.length : Int)] 3 (0, 0)) ∧ W.heap[D]? = some (.deferred (some [])))
          (fun _ _ _ => False) ?_ ?_ ⟨HS8.out, H158.out, HD8.out⟩
          (FdNext.fr) (fun _ _ _ _ _ _ h hr => FdNext.put _ _ _ _ _ _ h hr) ?_ ?_ ?_
        · intro s A B row ⟨h1, h2, h3⟩ hg hr
          refine ⟨h1.grown hg (fun r e => ⟨by have := (hr r e).1; omega, (hr r e).2⟩), (hg.block _ (lt_of_heap h2) (fun e => by have := (hr _ e.symm).1; omega)).trans h2, (hg.block _ (lt_of_heap h3) (fun e => by have := (hr _ e.symm).1; omega)).trans h3⟩
        · exact fun _ _ _ _ _ h _ _ => h
        · rintro l pre x V W1 W hl ⟨r, hr⟩ ⟨hs, hi, hd⟩ ⟨hx, hox, hfx⟩
          have hsW := hs.later hfx
          have hiW := hfx.get hi id
          have hdW := hfx.get hd id
          have hallW := HA.out.kept hsW.fr (fun k h1 h2 h3 => by rcases h3 with h3 | h3 <;> omega)
          obtain ⟨y, hy, hyp, hyx, hyl, hys⟩ := next_is HK.out hx
          obtain ⟨gw, cw, hwe, k1, k2, hc1, hc2⟩ := hallW.want.at hy
          cases hwe
          obtain ⟨xp, xs, xv⟩ := x
          obtain ⟨yp, ys, yv⟩ := y
          dsimp only at hyp hyx k1 k2 hys hox
          subst hyp hyx
          have hyo : OB 5 (fun k => k < b7 ∧ k ≠ h) W yv ys := hallW.want.each _ (List.mem_of_getElem? hy)
          have hsm := same_any _ _ _ _ W hox.rb hyo.rb
          rw [decide_eq_true rfl] at hsm
          have HSM := Lib.hid hsm
          obtain ⟨xa, xc, rfl⟩ := ob_shape hox
          obtain ⟨ya, yc, rfl⟩ := ob_shape hyo
          have i7 : W.cell? ⟨b7, 0, none⟩ = some (.slice (some ⟨gw, 0, none⟩) ws.length wc) := cell_is hallW.box.c7 0 rfl
          have i0 : W.cell? ⟨b15, 0, none⟩ = some (.int .i64 (pre.length : Int)) := cell_is hiW 0 rfl
          have hlt' : (pre.length : Int) < (ws.length : Int) := by omega
          have HFX := Lib.hid hfx
          have HOX := Lib.hid hox
          have HIW := Lib.hid hiW
          have HAW := Lib.hid hallW
          have c13W : W.cell? ⟨b13, 0, none⟩ = some (.func (.func 46) #[] #[.pointer (some ⟨bf, 0, none⟩), .pointer (some ⟨bo, 0, none⟩)]) := cell_is hallW.c13 0 rfl
          have l13 := lt_of_heap hallW.c13
          have HS1 := Lib.hid hs
          have HDW := Lib.hid hdW
          have HLR := Lib.hid hr
          have hl15 : b15 < W.heap.size := lt_of_heap hiW
          clear hs hi hd hx hox hfx hsW hiW hdW hallW hy hyo hsm hr
          gi_wp2
          refine ⟨trivial, ?_⟩
          gi_wp2
          refine ⟨trivial, rfl, CallsIn.mono (show CallsIn (Fence.wide.inRound l) 0 Try.prog 20 _ W _ from callsIn_wide.2 HSM.out) ?_⟩
          rintro e W2 ⟨rfl, j, rfl⟩
          have hwd : Fr (fun _ => False) W (W.drewN j) := (Fr.refl _ W).drewN j
          generalize W.drewN j = Wd at hwd ⊢
          have hallD := HAW.out.kept hwd (fun _ _ _ h => h)
          have i13 : (Wd.alloc (.cells #[.int .i64 0] 3)).cell? ⟨b13, 0, none⟩ = some (.func (.func 46) #[] #[.pointer (some ⟨bf, 0, none⟩), .pointer (some ⟨bo, 0, none⟩)]) := cell_is ((heap_alloc_lt _ _ _ (lt_of_heap hallD.c13)).trans hallD.c13) 0 rfl
          have HWD := Lib.hid (hwd.trans ((Fr.refl _ Wd).alloc (.cells #[.int .i64 0] 3)) (fun _ _ h => h))
          have hszd := hwd.size
          have HAD := Lib.hid (hallD.kept ((Fr.refl (fun _ => False) Wd).alloc (.cells #[.int .i64 0] 3)) (fun _ _ _ h => h))
          have hBK := heap_alloc_eq Wd (.cells #[.int .i64 0] 3)
          have HBK := Lib.hid hBK
          have hszk := World.size_alloc Wd (.cells #[.int .i64 0] 3)
          clear hwd hallD hBK
          gi_wp2
          generalize hbk : Wd.heap.size = bk at *
          generalize hwk : Wd.alloc (.cells #[.int .i64 0] 3) = wk at *
          have hlk := HWD.out.get HLR.out id
          have HLK := Lib.hid hlk
          clear hlk i0 i7 k1 k2 i13 c13W HSM
          refine wpIn_rangeFreshN (l₀ := l) (r₀ := r) HLK.out (gf := 46) (lb := #[.pointer (some ⟨bf, 0, none⟩), .pointer (some ⟨bo, 0, none⟩)]) rfl (enters_of Try.func46 (by kernel_rfl) rfl)
            (all_fresh file bs bf bo ga ca wk HAD.out.cF HAD.out.cO HAD.out.any (by omega)) KeepAt.trans (keepAt_put (fdOwn_lt HAD.out.cF HAD.out.cO HAD.out.any)) (Below.refl _ _) (fun _ => rfl)
            (fun pre3 W3 => W3.heap[bk]? = some (.cells #[.int .i64 (pre3.length : Int)] 3 (0, 0)) ∧ (pre3.length : Int) ≤ 2 ∧ Fr (fun k => k = bk) wk W3)
            (fun c3 pre3 W3 => c3 = .exit 6 ∧ Fr (fun k => k = bk) wk W3) ?_ ?_ ⟨HBK.out, by simp, Fr.refl _ _⟩
            (FdNext.fr) (fun _ _ _ _ _ _ h hr => FdNext.put _ _ _ _ _ _ h hr) ?_ ?_ ?_
          · intro s A B row ⟨h1, h2, h3⟩ hg hr
            exact ⟨(hg.block _ (lt_of_heap h1) (fun e => by have := (hr _ e.symm).1; omega)).trans h1, h2, h3.grown hg (fun k e => .inr (hr k e).1)⟩
          · intro c0 s A B row ⟨h1, h3⟩ hg hr
            exact ⟨h1, h3.grown hg (fun k e => .inr (hr k e).1)⟩
          · rintro l3 pre3 x3 V3 W13 W3 hl3 - ⟨hi3, hle3, hf3⟩ ⟨hx3, hox3, hfx3⟩
            have hfW3 : Fr (fun k => k = bk) wk W3 := hf3.trans hfx3 (fun _ _ h => h.elim)
            have hiW3 := hfx3.get hi3 id
            have hallW3 := HAD.out.kept hfW3 (fun k h1 h2 h3 => by omega)
            obtain ⟨y3, hy3, hyp3, hyx3, hyl3, hys3⟩ := next_is HK.out hx3
            obtain ⟨gw3, cw3, hwe3, q1, q2, hc13, hc23⟩ := hallW3.want.at hy3
            cases hwe3
            obtain ⟨xp3, xs3, xv3⟩ := x3
            obtain ⟨yp3, ys3, yv3⟩ := y3
            dsimp only at hyp3 hyx3 q1 q2 hys3 hox3
            subst hyp3 hyx3
            have hyo3 : OB 5 (fun k => k < b7 ∧ k ≠ h) W3 yv3 ys3 := hallW3.want.each _ (List.mem_of_getElem? hy3)
            have hsm3 := same_any _ _ _ _ W3 hox3.rb hyo3.rb
            rw [decide_eq_true rfl] at hsm3
            have HSM3 := Lib.hid hsm3
            obtain ⟨xa3, xc3, rfl⟩ := ob_shape hox3
            obtain ⟨ya3, yc3, rfl⟩ := ob_shape hyo3
            have j7 : W3.cell? ⟨b7, 0, none⟩ = some (.slice (some ⟨gw, 0, none⟩) ws.length wc) := cell_is hallW3.box.c7 0 rfl
            have j0 : W3.cell? ⟨bk, 0, none⟩ = some (.int .i64 (pre3.length : Int)) := cell_is hiW3 0 rfl
            have hlt3 : (pre3.length : Int) < (ws.length : Int) := by omega
            have zk := frozen_of hiW3 0
            have hks := heap_setCell_eq 0 (.int .i64 ((pre3.length : Int) + 1)) hiW3
            simp only [List.setIfInBounds_toArray, List.set_cons_zero] at hks
            have HKS := Lib.hid hks
            have HFW3 := Lib.hid hfW3
            have HAW3 := Lib.hid hallW3
            have HIW3 := Lib.hid hiW3
            clear hi3 hf3 hx3 hox3 hfx3 hfW3 hiW3 hallW3 hy3 hyo3 hsm3 hks
            gi_wp2
            refine ⟨trivial, ?_⟩
            gi_wp2
            refine ⟨trivial, rfl, CallsIn.mono (show CallsIn (Fence.wide.inRound l3) 0 Try.prog 20 _ W3 _ from callsIn_wide.2 HSM3.out) ?_⟩
            rintro e W4 ⟨rfl, j3, rfl⟩
            have hwd3 : Fr (fun _ => False) W3 (W3.drewN j3) := (Fr.refl _ W3).drewN j3
            generalize W3.drewN j3 = We at hwd3 ⊢
            have hke := hwd3.get HIW3.out id
            have ke0 : We.cell? ⟨bk, 0, none⟩ = some (.int .i64 (pre3.length : Int)) := cell_is hke 0 rfl
            have kez := frozen_of hke 0
            have hks := heap_setCell_eq 0 (.int .i64 ((pre3.length : Int) + 1)) hke
            simp only [List.setIfInBounds_toArray, List.set_cons_zero] at hks
            have ke1 : (We.setCell ⟨bk, 0, none⟩ (.int .i64 ((pre3.length : Int) + 1))).cell? ⟨bk, 0, none⟩ = some (.int .i64 ((pre3.length : Int) + 1)) := cell_is hks 0 rfl
            have hkf : KeepsFrom wk.heap.size W3 (We.setCell ⟨bk, 0, none⟩ (.int .i64 ((pre3.length : Int) + 1))) := ⟨by have := hwd3.size; simpa using this, fun k o h1 h2 h3 => (heap_setCell_ne _ _ _ _ (show k ≠ bk by omega)).trans ((hwd3.block k (lt_of_heap h2) id).trans h2)⟩
            have hka : KeepAt (fdOwn bf bo (.slice (some ⟨ga, 0, none⟩) bs.length ca)) W3 (We.setCell ⟨bk, 0, none⟩ (.int .i64 ((pre3.length : Int) + 1))) := by
              refine ⟨by have := hwd3.size; simpa using this, fun k hk => ?_⟩
              obtain ⟨o1, o2, o3⟩ := HAW3.out.own k hk
              exact (heap_setCell_ne _ _ _ _ (show k ≠ bk by omega)).trans (hwd3.block k o3 id)
            have hfs : Fr (fun k => k = bk) wk (We.setCell ⟨bk, 0, none⟩ (.int .i64 ((pre3.length : Int) + 1))) := (HFW3.out.trans hwd3 (fun _ _ h => h.elim)).setCell (p := ⟨bk, 0, none⟩) (.inl rfl) _
            have HKF := Lib.hid hkf
            have HKA := Lib.hid hka
            have HFS3 := Lib.hid hfs
            have HKS3 := Lib.hid hks
            clear hkf hka hfs hks hke
            by_cases h3 : (pre3.length : Int) = 2
            · rw [h3] at ke0 ke1 HKF HKA HFS3
              gi_wp2
              exact ⟨HKF.out, rfl, HFS3.out⟩
            · have h3' : ¬ (2 : Int) < (pre3.length : Int) + 1 := by omega
              gi_wp2
              exact ⟨HKF.out, HKA.out, by simpa using HKS3.out, by simp; omega, HFS3.out⟩
          rotate_left
          · rintro c3 pre3 W3 _ ⟨rfl, hf3⟩
            have hfW : Fr (fun _ => False) W W3 := HWD.out.trans hf3 (fun k hk e => by omega)
            have hallW3 := HAW.out.kept hfW (fun _ _ _ h => h)
            have i9 : W3.cell? ⟨b7 + 1 + 1, 0, none⟩ = some (.pointer (some ⟨h, 0, none⟩)) := cell_is hallW3.box.c9 0 rfl
            have HFW := Lib.hid hfW
            clear hfW hf3 hallW3
            gi_wp2
            refine ⟨trivial, rfl, CallsIn.mono (show CallsIn (Fence.wide.inRound l) 0 Try.prog 22 _ W3 _ from callsIn_wide.2 (HS1.out.keep (HFX.out.trans HFW.out (fun _ _ h => h)) (Own.fr HOX.out HFW.out (fun _ _ _ h => h)) (by omega) (by omega))) ?_⟩
            rintro e W5 ⟨rfl, hg5, hf5, hkf5⟩
            have n15 : ∀ k, k < b15 + 1 → k ≠ h → ¬ (k = h ∨ w7.heap.size ≤ k) := fun k h1 h2 h3 => by omega
            have h15' : W5.heap[b15]? = some (.cells #[.int .i64 (pre.length : Int)] 3 (0, 0)) := hf5.get (HFW.out.get HIW.out id) (n15 _ (by omega) (by omega))
            have i0' : W5.cell? ⟨b15, 0, none⟩ = some (.int .i64 (pre.length : Int)) := cell_is h15' 0 rfl
            have z15 := frozen_of h15' 0
            have h15s := heap_setCell_eq 0 (.int .i64 ((pre.length : Int) + 1)) h15'
            simp only [List.setIfInBounds_toArray, List.set_cons_zero] at h15s
            have hK3 : KeepsFrom w8.heap.size W (W5.setCell ⟨b15, 0, none⟩ (.int .i64 ((pre.length : Int) + 1))) := by
              refine ⟨by have := hkf5.size; have := HFW.out.size; simp; omega, fun k o h1 h2 h3 => ?_⟩
              exact (heap_setCell_ne _ _ _ _ (show k ≠ b15 by omega)).trans (hkf5.same k o (Nat.zero_le _) (HFW.out.get h2 id) h3)
            have hA3 : KeepAt (fdOwn bf bo (.slice (some ⟨ga, 0, none⟩) bs.length ca)) W (W5.setCell ⟨b15, 0, none⟩ (.int .i64 ((pre.length : Int) + 1))) := by
              refine ⟨by have := hkf5.size; have := HFW.out.size; simp; omega, fun k hk => ?_⟩
              obtain ⟨o1, o2, o3⟩ := HAW.out.own k hk
              exact (heap_setCell_ne _ _ _ _ (show k ≠ b15 by omega)).trans ((hf5.block k (Nat.lt_of_lt_of_le o3 HFW.out.size) (n15 _ (by omega) o1)).trans (HFW.out.block k o3 id))
            have hS3 := hg5.setN (by omega) (by omega) (.int .i64 ((pre.length : Int) + 1))
            have hD3 : (W5.setCell ⟨b15, 0, none⟩ (.int .i64 ((pre.length : Int) + 1))).heap[D]? = some (.deferred (some [])) := (heap_setCell_ne _ _ _ _ hD8).trans (hkf5.same D _ (Nat.zero_le _) (HFW.out.get HDW.out id) rfl)
            have HK3 := Lib.hid hK3
            have HA3 := Lib.hid hA3
            have HS3 := Lib.hid hS3
            have H15s := Lib.hid h15s
            have HD3 := Lib.hid hD3
            clear hg5 hf5 hkf5 hK3 hA3 hS3 h15s h15' n15 hD3
            gi_wp2
            exact ⟨HK3.out, HA3.out, by simpa [Nat.add_assoc] using HS3.out, by simpa using H15s.out, HD3.out⟩
          · rintro ys3 W3 _ ⟨hi3, hle3, hf3⟩
            have hfW : Fr (fun _ => False) W W3 := HWD.out.trans hf3 (fun k hk e => by omega)
            have hallW3 := HAW.out.kept hfW (fun _ _ _ h => h)
            have i9 : W3.cell? ⟨b7 + 1 + 1, 0, none⟩ = some (.pointer (some ⟨h, 0, none⟩)) := cell_is hallW3.box.c9 0 rfl
            have HFW := Lib.hid hfW
            clear hfW hf3 hallW3 hi3
            gi_wp2
            refine ⟨trivial, rfl, CallsIn.mono (show CallsIn (Fence.wide.inRound l) 0 Try.prog 22 _ W3 _ from callsIn_wide.2 (HS1.out.keep (HFX.out.trans HFW.out (fun _ _ h => h)) (Own.fr HOX.out HFW.out (fun _ _ _ h => h)) (by omega) (by omega))) ?_⟩
            rintro e W5 ⟨rfl, hg5, hf5, hkf5⟩
            have n15 : ∀ k, k < b15 + 1 → k ≠ h → ¬ (k = h ∨ w7.heap.size ≤ k) := fun k h1 h2 h3 => by omega
            have h15' : W5.heap[b15]? = some (.cells #[.int .i64 (pre.length : Int)] 3 (0, 0)) := hf5.get (HFW.out.get HIW.out id) (n15 _ (by omega) (by omega))
            have i0' : W5.cell? ⟨b15, 0, none⟩ = some (.int .i64 (pre.length : Int)) := cell_is h15' 0 rfl
            have z15 := frozen_of h15' 0
            have h15s := heap_setCell_eq 0 (.int .i64 ((pre.length : Int) + 1)) h15'
            simp only [List.setIfInBounds_toArray, List.set_cons_zero] at h15s
            have hK3 : KeepsFrom w8.heap.size W (W5.setCell ⟨b15, 0, none⟩ (.int .i64 ((pre.length : Int) + 1))) := by
              refine ⟨by have := hkf5.size; have := HFW.out.size; simp; omega, fun k o h1 h2 h3 => ?_⟩
              exact (heap_setCell_ne _ _ _ _ (show k ≠ b15 by omega)).trans (hkf5.same k o (Nat.zero_le _) (HFW.out.get h2 id) h3)
            have hA3 : KeepAt (fdOwn bf bo (.slice (some ⟨ga, 0, none⟩) bs.length ca)) W (W5.setCell ⟨b15, 0, none⟩ (.int .i64 ((pre.length : Int) + 1))) := by
              refine ⟨by have := hkf5.size; have := HFW.out.size; simp; omega, fun k hk => ?_⟩
              obtain ⟨o1, o2, o3⟩ := HAW.out.own k hk
              exact (heap_setCell_ne _ _ _ _ (show k ≠ b15 by omega)).trans ((hf5.block k (Nat.lt_of_lt_of_le o3 HFW.out.size) (n15 _ (by omega) o1)).trans (HFW.out.block k o3 id))
            have hS3 := hg5.setN (by omega) (by omega) (.int .i64 ((pre.length : Int) + 1))
            have hD3 : (W5.setCell ⟨b15, 0, none⟩ (.int .i64 ((pre.length : Int) + 1))).heap[D]? = some (.deferred (some [])) := (heap_setCell_ne _ _ _ _ hD8).trans (hkf5.same D _ (Nat.zero_le _) (HFW.out.get HDW.out id) rfl)
            have HK3 := Lib.hid hK3
            have HA3 := Lib.hid hA3
            have HS3 := Lib.hid hS3
            have H15s := Lib.hid h15s
            have HD3 := Lib.hid hD3
            clear hg5 hf5 hkf5 hK3 hA3 hS3 h15s h15' n15 hD3
            gi_wp2
            exact ⟨HK3.out, HA3.out, by simpa [Nat.add_assoc] using HS3.out, by simpa using H15s.out, HD3.out⟩
        · rintro D2 ys2 W2 hD2 hys2 ⟨hs, hi, hd⟩ hKD2
          have hyl2 : ys2.length = ws.length := by
            have := congrArg List.length (hys2.trans HK.out.symm)
            simpa using this
          rw [hyl2] at hs hi
          have hall := HA.out.kept hs.fr (fun k h1 h2 h3 => by rcases h3 with h3 | h3 <;> omega)
          have i0 : W2.cell? ⟨b15, 0, none⟩ = some (.int .i64 (ws.length : Int)) := cell_is hi 0 rfl
          have i7 : W2.cell? ⟨b7, 0, none⟩ = some (.slice wa ws.length wc) := cell_is hall.box.c7 0 rfl
          have i10 : W2.cell? ⟨b7 + 1 + 1 + 1, 0, none⟩ = some (.bool false) := cell_is hall.box.c10 0 rfl
          have z10 := frozen_of hall.box.c10 0
          have h10 := heap_setCell_eq 0 (.bool true) hall.box.c10
          simp only [List.setIfInBounds_toArray, List.set_cons_zero] at h10
          have hf10 : Fr (fun k => k = b7 + 1 + 1 + 1) W2 (W2.setCell ⟨b7 + 1 + 1 + 1, 0, none⟩ (.bool true)) := (Fr.refl (fun k => k = b7 + 1 + 1 + 1) _).setCell (p := ⟨b7 + 1 + 1 + 1, 0, none⟩) (.inl rfl) _
          have H10 := Lib.hid h10
          have HF10 := Lib.hid hf10
          have HSE := Lib.hid hs
          have HDE := Lib.hid hd
          have HDE2 := Lib.hid hKD2
          clear hs hi hd hKD2 hall h10 hf10 hys2
          go_wp2_with (fail)
          have hb10 : b7 + 1 + 1 + 1 < w7.heap.size := by omega
          have hDD : D2 ≠ D := by omega
          have hDn : D2 ≠ b7 + 1 + 1 + 1 := by have := HSE.out.fr.size; omega
          have hDn1 : D ≠ b7 + 1 + 1 + 1 := by omega
          have k2 : (W2.setCell ⟨b7 + 1 + 1 + 1, 0, none⟩ (.bool true)).heap[D2]? = some (.deferred (some [])) := (heap_setCell_ne _ _ _ _ hDn).trans HDE2.out
          have k1 : ((W2.setCell ⟨b7 + 1 + 1 + 1, 0, none⟩ (.bool true)).putObj D2 (.deferred none)).heap[D]? = some (.deferred (some [])) := (heap_putObj_ne _ _ _ _ (Ne.symm hDD)).trans ((heap_setCell_ne _ _ _ _ hDn1).trans HDE.out)
          refine ⟨by simp, .inl ⟨_, _, rfl, run_takeDeferred k2, ?_⟩⟩
          refine ⟨by simp, .inl ⟨_, _, rfl, run_takeDeferred k1, ?_⟩⟩
          have hc5 : (((W2.setCell ⟨b7 + 1 + 1 + 1, 0, none⟩ (.bool true)).putObj D2 (.deferred none)).putObj D (.deferred none)).cell? ⟨b7 + 1 + 1 + 1, 0, none⟩ = some (.bool true) := by
            rw [cell?_putObj _ _ _ _ (Ne.symm hDn1), cell?_putObj _ _ _ _ (Ne.symm hDn)]
            exact cell_is H10.out 0 rfl
          obtain ⟨vo, vw, L, hh, hl, hn⟩ := HSE.out.held
          have hs1 := HR0.out.size
          have hs2 := HSE.out.fr.size
          have hheld : Held 29 22 5 (fun k => k = h ∨ w7.heap.size ≤ k) (((W2.setCell ⟨b7 + 1 + 1 + 1, 0, none⟩ (.bool true)).putObj D2 (.deferred none)).putObj D (.deferred none)) (fun _ => True) h vo vw [] L := by
            refine held_cells (hh.fr HF10.out (fun k hk e => by omega)) (fun k o hk hc => ?_)
            have e1 : k ≠ D2 := fun e => by
              rw [e, k2] at hk
              cases hk
              cases hc
            have e2 : k ≠ D := fun e => by
              rw [e, (heap_setCell_ne _ _ _ _ hDn1).trans HDE.out] at hk
              cases hk
              cases hc
            exact (heap_putObj_ne _ _ _ _ e2).trans (heap_putObj_ne _ _ _ _ e1)
          refine ⟨.bool true, ?_, rfl, ⟨vo, vw, L, w7.heap.size, hs1, by simp; omega, hheld, hl, by omega⟩,
            (((HR0.out.mono (fun _ _ h => h.elim)).trans HSE.out.fr (fun k hk h => h.elim id (fun h => by omega))).trans HF10.out (fun k hk h => by omega)).putObj (.inr (by omega)) _ |>.putObj (.inr (by omega)) _⟩
          simp [results, Try.f30, go_sem, hc5]
        · rintro D2 c0 pre2 W2 _ _ h2 _
          exact h2.elim

end Go.Proofs.Ytgobbgklmjnnlaa
