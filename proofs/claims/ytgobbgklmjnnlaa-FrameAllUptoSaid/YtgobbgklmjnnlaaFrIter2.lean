/- The iterator of frame.All. -/
import Derived.Test.YtgobbgklmjnnlaaFrIter
namespace Go.Proofs.Ytgobbgklmjnnlaa
open Go.RowKit Go.Sb
attribute [local go_sem] Oper.semAt_some

/-- Some blocks lie as they lay. -/
def KeepAt (S : Nat → Prop) (W W' : World) : Prop := W.heap.size ≤ W'.heap.size ∧ ∀ k, S k → W'.heap[k]? = W.heap[k]?
theorem KeepAt.refl (S : Nat → Prop) (W : World) : KeepAt S W W := ⟨Nat.le_refl _, fun _ _ => rfl⟩
theorem KeepAt.trans {S : Nat → Prop} {A B C : World} (h : KeepAt S A B) (k : KeepAt S B C) : KeepAt S A C := ⟨Nat.le_trans h.1 k.1, fun i hi => (k.2 i hi).trans (h.2 i hi)⟩
theorem KeepAt.of_fr {S F : Nat → Prop} {W W' : World} (h : Fr F W W') (hS : ∀ k, S k → k < W.heap.size ∧ ¬ F k) : KeepAt S W W' := ⟨h.size, fun k hk => h.block k (hS k hk).1 (hS k hk).2⟩

/-- The iterator's own blocks: the file's box, the bytes' box, the bytes. -/
def fdOwn (bf bo : Nat) (vo : Value) : Nat → Prop := fun k => k = bf ∨ k = bo ∨ vo.ownBlock = some k

def FdRel (file : Int) (bs : List UInt8) (L : List (Int × List UInt8)) (S : Nat → Prop) (w : World) (J : List Fd → World → Prop) (i : Value) (wr : World) : Prop :=
  ∃ (p : Nat) (pre : List Fd), i = .int .i64 (p : Int) ∧ p ≤ bs.length ∧ pre.map Fd.key ++ frames file p (bs.drop p) = L ∧ J pre wr ∧ KeepAt S w wr

theorem rb_from {w : World} {g n c p : Nat} {bs : List UInt8} (h : OB 5 (fun _ => True) w (.slice (some ⟨g, 0, none⟩) n c) bs) (hn : n = bs.length) (hp : p ≤ n) : RB w (.slice (some ⟨g, p, none⟩) (n - p) (c - p)) (bs.drop p) := by
  obtain ⟨h1, h2⟩ := h
  rcases h2 with ⟨hv, _⟩ | ⟨g', cap, cur, hv, _, hg, hnc, hcm, hs, ht⟩
  · cases hv
  · cases hv
    refine ⟨_, c - p, by rw [List.length_drop, hn], by rw [List.length_drop]; omega, by omega, .inr ⟨g, p, none, rfl, fun _ => rfl, fun i hi => ?_⟩⟩
    rw [List.length_drop] at hi
    rw [cell_of hg, List.getElem_drop]
    have h3 : (cur.toList.take (bs.length * 1))[p + i]? = some (byte (bs[p + i]'(by omega))) := by
      rw [ht, List.getElem?_map, List.getElem?_eq_getElem (by omega)]
      rfl
    rw [List.getElem?_take, if_pos (by omega)] at h3
    simpa using h3

set_option maxRecDepth 100000 in
set_option maxHeartbeats 2000000 in
theorem all1_fr (file : Int) (bs : List UInt8) (bf bo l g c : Nat) (w : World) (hF : w.heap[bf]? = some (.cells #[.int .i64 file] 3 (0, 0))) (hO : w.heap[bo]? = some (.cells #[.slice (some ⟨g, 0, none⟩) bs.length c] 22 (0, 0)))
    (hv : OB 5 (fun _ => True) w (.slice (some ⟨g, 0, none⟩) bs.length c) bs) (hm : bs.length ≤ 150000000000000)
    (J Jx : List Fd → World → Prop) (hJ : AbidesFrom w.heap.size J)
    (hY : ∀ pre x W1 W2, J pre W1 → FdNext (frames file 0 bs) pre x W1 W2 → YieldAt Fence.wide 0 Try.prog l #[.int .i64 x.p, x.v] W2 fun e W' =>
      (e = .returned (.bool true) ∧ J (pre ++ [x]) W' ∧ KeepAt (fdOwn bf bo (.slice (some ⟨g, 0, none⟩) bs.length c)) W2 W') ∨ (e = .returned (.bool false) ∧ Jx (pre ++ [x]) W')) (h0 : J [] w) :
    CallsIn Fence.wide 0 Try.prog 46 #[.func (.yield l) #[] #[], .pointer (some ⟨bf, 0, none⟩), .pointer (some ⟨bo, 0, none⟩)] w fun e W' => (∃ v, e = .returned v) ∧
      ((∃ ys : List Fd, ys.map Fd.key = frames file 0 bs ∧ J ys W') ∨ (∃ pre : List Fd, pre.map Fd.key <+: frames file 0 bs ∧ Jx pre W')) := by
  refine callsIn_wide.2 ?_
  have HF := Lib.hid hF
  have HO := Lib.hid hO
  have HV := Lib.hid hv
  have HJ := Lib.hid hJ
  have HY := Lib.hid hY
  have H0 := Lib.hid h0
  have hcap : bs.length ≤ c ∧ c ≤ maxLen := by
    rcases hv.2 with ⟨h, _⟩ | ⟨g', cap, cur, h, _, _, h1, h2, _⟩
    · cases h
    · cases h
      exact ⟨h1, h2⟩
  clear hF hO hv hJ hY h0
  unfold maxLen at hcap
  go_enter Try.func46, Try.ntmps46
  go_wp2_with (fail)
  refine (wpIn_wide (n := 0)).1 ?_
  gi_loopw [4] (fun i wr => FdRel file bs (frames file 0 bs) (fdOwn bf bo (.slice (some ⟨g, 0, none⟩) bs.length c)) w J i wr) (fun i _ => bs.length - (intOf i).toNat)
  case atStart => exact ⟨0, [], rfl, Nat.zero_le _, by simp, H0.out, KeepAt.refl _ _⟩
  case round =>
    obtain ⟨p, pre, rfl, hp, hL, hj, hk⟩ := hrel
    have HL := Lib.hid hL
    have HJP := Lib.hid hj
    have HK := Lib.hid hk
    have HFR : Hid (wr.heap[bf]? = some (.cells #[.int .i64 file] 3 (0, 0))) := Lib.hid ((hk.2 bf (.inl rfl)).trans HF.out)
    have HOR : Hid (wr.heap[bo]? = some (.cells #[.slice (some ⟨g, 0, none⟩) bs.length c] 22 (0, 0))) := Lib.hid ((hk.2 bo (.inr (.inl rfl))).trans HO.out)
    have HVR : Hid (OB 5 (fun _ => True) wr (.slice (some ⟨g, 0, none⟩) bs.length c) bs) := Lib.hid (Own.of HV.out (fun k _ hb => hk.2 k (.inr (.inr hb))))
    clear hL hj hk
    have c1 : wr.cell? ⟨bf, 0, none⟩ = some (.int .i64 file) := cell_is HFR.out 0 rfl
    have c2 : wr.cell? ⟨bo, 0, none⟩ = some (.slice (some ⟨g, 0, none⟩) bs.length c) := cell_is HOR.out 0 rfl
    by_cases hpc : p = c
    · subst hpc
      have hx0 : bs.drop p = [] := List.drop_eq_nil_of_le (by omega)
      have he : errOf file (p : Int) (bs.drop p) ≠ 0 := by rw [hx0]; exact errOf_nil _ _
      have hpb : bs.length - p = 0 := by omega
      have HRB : Hid (RB wr.drew (.slice (some ⟨g, 0, none⟩) 0 0) (bs.drop p)) := Lib.hid (by
        rw [hx0]
        exact ⟨_, 0, rfl, by simp, by unfold maxLen; omega, .inr ⟨g, 0, none, rfl, fun h => absurd rfl h, fun i hi => by simp at hi⟩⟩)
      have hne : (errOf file (p : Int) (bs.drop p) != 0) = true := by simpa using he
      have hLx := HL.out
      rw [frames_err he, List.append_nil] at hLx
      have HLX := Lib.hid hLx
      clear hx0 hLx he
      gi_wp2
      refine wpIn_wide.2 ?_
      go_region_held3 (fun w' => w'.cell? ⟨bf, 0, none⟩ = some (.int .i64 file) ∧ w'.cell? ⟨bo, 0, none⟩ = some (.slice (some ⟨g, 0, none⟩) bs.length p)) (first | exact ⟨c1, c2⟩ | exact ⟨d1, d2⟩) (first
        | (go_at_call 24; refine (take_any file p _ (bs.drop p) wr.drew HRB.out).mono ?_; rintro e w1 ⟨v1, rfl, ho1, hf1⟩; have HO1 := Lib.hid ho1; have HF1 := Lib.hid (((Fr.refl (fun _ => False) wr).drew).trans hf1 (fun _ _ h => h)); have d1 : w1.cell? ⟨bf, 0, none⟩ = some (.int .i64 file) := cell_is (hf1.get HFR.out id) 0 rfl; have d2 : w1.cell? ⟨bo, 0, none⟩ = some (.slice (some ⟨g, 0, none⟩) bs.length p) := cell_is (hf1.get HOR.out id) 0 rfl; clear ho1 hf1))
      have HJ1 := Lib.hid (HJ.out pre wr w1 none HJP.out ⟨HF1.out.os, HF1.out.tape, HF1.out.output, HF1.out.size, fun k hk _ => HF1.out.block k hk id⟩ (fun r e => by cases e))
      generalize errOf file (p : Int) (bs.drop p) = er at *
      gi_wp2
      refine ⟨fun _ h => (by cases h), ?_⟩
      gi_wp2
      refine bodyPost_ret (results_none rfl _ _ _) rfl ?_
      exact ⟨⟨_, rfl⟩, .inl ⟨_, HLX.out, HJ1.out⟩⟩
    · have HRB := Lib.hid ((rb_from HVR.out rfl hp).drewN 1)
      have hpc' : ¬ c = p := fun e => hpc e.symm
      gi_wp2
      refine wpIn_wide.2 ?_
      go_region_held3 (fun w' => w'.cell? ⟨bf, 0, none⟩ = some (.int .i64 file) ∧ w'.cell? ⟨bo, 0, none⟩ = some (.slice (some ⟨g, 0, none⟩) bs.length c)) (first | exact ⟨c1, c2⟩ | exact ⟨d1, d2⟩) (first
        | (go_at_call 24; refine (take_any file p _ (bs.drop p) wr.drew HRB.out).mono ?_; rintro e w1 ⟨v1, rfl, ho1, hf1⟩; have HO1 := Lib.hid ho1; have HF1 := Lib.hid (((Fr.refl (fun _ => False) wr).drew).trans hf1 (fun _ _ h => h)); have d1 : w1.cell? ⟨bf, 0, none⟩ = some (.int .i64 file) := cell_is (hf1.get HFR.out id) 0 rfl; have d2 : w1.cell? ⟨bo, 0, none⟩ = some (.slice (some ⟨g, 0, none⟩) bs.length c) := cell_is (hf1.get HOR.out id) 0 rfl; clear ho1 hf1))
      by_cases he : errOf file (p : Int) (bs.drop p) = 0
      · have hmany : manyOf file (p : Int) (bs.drop p) = ((8 + lenOf (bs.drop p) : Nat) : Int) := by unfold manyOf; rw [if_pos he]
        have hrest : restOf file (p : Int) (bs.drop p) = payOf (bs.drop p) := by unfold restOf; rw [if_pos he]
        have hle := (errOf_len he).1
        rw [List.length_drop] at hle
        rw [he, hmany]
        rw [hrest] at HO1
        have hLx := HL.out
        rw [frames_ok he, List.drop_drop] at hLx
        have HLX := Lib.hid hLx
        generalize lenOf (bs.drop p) = k at *
        obtain ⟨fn, tmps, assign, body, hy, hR⟩ := HY.out pre ⟨p, payOf (bs.drop p), v1⟩ wr w1 HJP.out ⟨by rw [← hLx, List.map_append]; exact ⟨_, by rw [List.append_assoc]; rfl⟩, Own.mono HO1.out (fun k _ h => h), HF1.out⟩
        dsimp only at hy
        clear hLx he hmany hrest
        gi_wp2
        refine ⟨rfl, hR.mono ?_⟩
        rintro e W3 (⟨rfl, hJ3, hk3⟩ | ⟨rfl, hJx3⟩)
        · have HJ3 := Lib.hid hJ3
          have HK3 := Lib.hid hk3
          clear hy hR hJ3 hk3
          gi_wp2
          go_roundw
          case rel =>
            refine ⟨p + (8 + k), _, by simp, by omega, ?_, HJ3.out, (HK.out.trans (KeepAt.of_fr HF1.out (fun j hj => ⟨?_, id⟩))).trans HK3.out⟩
            · rw [List.map_append, List.append_assoc]
              exact HLX.out
            · rcases hj with rfl | rfl | hj
              · exact lt_of_heap HFR.out
              · exact lt_of_heap HOR.out
              · exact (Own.block HVR.out j hj).2
          case measure => simp [intOf]; omega
        · have HX3 := Lib.hid hJx3
          clear hy hR hJx3
          gi_wp2
          refine bodyPost_ret (results_none rfl _ _ _) rfl ?_
          exact ⟨⟨_, rfl⟩, .inr ⟨_, by rw [← HLX.out, List.map_append]; exact ⟨_, by rw [List.append_assoc]; rfl⟩, HX3.out⟩⟩
      · have hne : (errOf file (p : Int) (bs.drop p) != 0) = true := by simpa using he
        have hLx := HL.out
        rw [frames_err he, List.append_nil] at hLx
        have HLX := Lib.hid hLx
        have HJ1 := Lib.hid (HJ.out pre wr w1 none HJP.out ⟨HF1.out.os, HF1.out.tape, HF1.out.output, HF1.out.size, fun k hk _ => HF1.out.block k hk id⟩ (fun r e => by cases e))
        clear hLx he
        generalize errOf file (p : Int) (bs.drop p) = er at *
        gi_wp2
        refine ⟨fun _ h => (by cases h), ?_⟩
        gi_wp2
        refine bodyPost_ret (results_none rfl _ _ _) rfl ?_
        exact ⟨⟨_, rfl⟩, .inl ⟨_, HLX.out, HJ1.out⟩⟩

/-- What a range over frame.All's iterator may count on. -/
theorem all_fresh (file : Int) (bs : List UInt8) (bf bo g c : Nat) (w : World) (hF : w.heap[bf]? = some (.cells #[.int .i64 file] 3 (0, 0))) (hO : w.heap[bo]? = some (.cells #[.slice (some ⟨g, 0, none⟩) bs.length c] 22 (0, 0)))
    (hv : OB 5 (fun _ => True) w (.slice (some ⟨g, 0, none⟩) bs.length c) bs) (hm : bs.length ≤ 150000000000000) :
    Fresh Try.prog 46 #[.pointer (some ⟨bf, 0, none⟩), .pointer (some ⟨bo, 0, none⟩)] (fun x : Fd => #[.int .i64 x.p, x.v]) (KeepAt (fdOwn bf bo (.slice (some ⟨g, 0, none⟩) bs.length c))) (FdNext (frames file 0 bs))
      (fun ys => ys.map Fd.key = frames file 0 bs) (fun pre => pre.map Fd.key <+: frames file 0 bs) w :=
  fun l J Jx W hW hJ _ hY h0 => all1_fr file bs bf bo l g c W ((hW.block bf (lt_of_heap hF)).trans hF) ((hW.block bo (lt_of_heap hO)).trans hO) (Own.of hv (fun k hk _ => hW.block k hk)) hm J Jx hJ hY h0

theorem fdOwn_lt {w : World} {file : Int} {bs : List UInt8} {bf bo g c : Nat} (hF : w.heap[bf]? = some (.cells #[.int .i64 file] 3 (0, 0))) (hO : w.heap[bo]? = some (.cells #[.slice (some ⟨g, 0, none⟩) bs.length c] 22 (0, 0)))
    (hv : OB 5 (fun _ => True) w (.slice (some ⟨g, 0, none⟩) bs.length c) bs) : ∀ k, fdOwn bf bo (.slice (some ⟨g, 0, none⟩) bs.length c) k → k < w.heap.size := fun k hk => by
  rcases hk with rfl | rfl | hk
  · exact lt_of_heap hF
  · exact lt_of_heap hO
  · exact (Own.block hv k hk).2

theorem keepAt_put {S : Nat → Prop} {w : World} (hS : ∀ k, S k → k < w.heap.size) (W : World) (l : Nat) (o o' : Obj) (hl : w.heap.size ≤ l) (_ : W.heap[l]? = some o) (_ : o.isCells = false) (_ : o.isWalk = false) : KeepAt S W (W.putObj l o') :=
  ⟨by simp, fun k hk => heap_putObj_ne _ _ _ _ (fun e => by have := hS k hk; omega)⟩

end Go.Proofs.Ytgobbgklmjnnlaa
