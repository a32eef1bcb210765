/- frame.Whole: how many bytes the frames have. -/
import Derived.Test.YtgobbgklmjnnlaaFrIter2
namespace Go.Proofs.Ytgobbgklmjnnlaa
open Go.RowKit Go.Sb
attribute [local go_sem] Oper.semAt_some

/-- where the last frame ends -/
def whOf (L : List (Int × List UInt8)) : Int := match L.getLast? with
  | some q => q.1 + 8 + (q.2.length : Int)
  | none => 0

theorem whOf_snoc (L : List (Int × List UInt8)) (q : Int × List UInt8) : whOf (L ++ [q]) = q.1 + 8 + (q.2.length : Int) := by unfold whOf; simp

theorem fsAt_bound (file : Int) : ∀ (k p : Nat) (bs : List UInt8) (q : Int × List UInt8), q ∈ fsAt file k p bs → (p : Int) ≤ q.1 ∧ q.1 + 8 + (q.2.length : Int) ≤ (p : Int) + (bs.length : Int)
  | 0, _, _, _, h => by simp [fsAt] at h
  | k + 1, p, bs, q, h => by
    unfold fsAt at h
    by_cases he : errOf file (p : Int) bs = 0
    · rw [if_pos he] at h
      have hl := (errOf_len he).1
      rcases List.mem_cons.1 h with rfl | h
      · rw [payOf_length hl]
        dsimp only
        omega
      · have ih := fsAt_bound file k _ _ q h
        rw [List.length_drop] at ih
        omega
    · rw [if_neg he] at h
      simp at h

theorem fd_bound {file : Int} {bs : List UInt8} {pre : List Fd} {x : Fd} (h : (pre ++ [x]).map Fd.key <+: frames file 0 bs) : 0 ≤ x.p ∧ x.p + 8 + (x.xs.length : Int) ≤ (bs.length : Int) := by
  have hm : x.key ∈ frames file 0 bs := h.subset (by simp)
  have := fsAt_bound file _ _ _ _ hm
  simp only [Fd.key] at this
  omega

theorem ob_shape {E : TypeId} {F : Nat → Prop} {w : World} {v : Value} {xs : List UInt8} (h : OB E F w v xs) : ∃ ad c, v = .slice ad xs.length c := by
  rcases h.2 with ⟨rfl, h0⟩ | ⟨g, cap, cur, rfl, _⟩
  · exact ⟨none, 0, by rw [h0]⟩
  · exact ⟨_, _, rfl⟩

set_option maxRecDepth 100000 in
set_option maxHeartbeats 1000000 in
theorem whole_any (file : Int) (ad : Addr) (n c : Nat) (bs : List UInt8) (w : World) (hv : RB w (.slice (some ad) n c) bs) (hm : bs.length ≤ 150000000000000) :
    Calls Try.prog 28 #[.int .i64 file, .slice (some ad) n c] w fun e w' => e = .returned (.int .i64 (whOf (frames file 0 bs))) ∧ Fr (fun _ => False) w w' := by
  have HV := Lib.hid hv
  clear hv
  refine calls_of_marks Try.func28 rfl ?_
  simp only [Try.ntmps28, List.size_toArray, List.length_cons, List.length_nil, Nat.reduceAdd, Nat.reduceSub, Array.replicate_succ, Array.replicate_zero, List.push_toArray, List.append_toArray, List.nil_append, List.cons_append]
  go_wp2_with (fail)
  refine (all_fr file ad n c bs _ (HV.out.fr ((Fr.refl _ _).alloc _)) hm).mono ?_
  rintro e w1 ⟨bf, bo, g, c', rfl, hF, hO, ho, hf, hgf, hgo⟩
  have hN := hf.get (heap_alloc_eq w (.cells #[.int .i64 0] 3)) id
  have HN := Lib.hid hN
  have HF0 := Lib.hid (((Fr.refl (fun _ => False) w).alloc (.cells #[.int .i64 0] 3)).trans hf (fun _ _ h => h))
  have HF := Lib.hid hF
  have HO := Lib.hid hO
  have HOB := Lib.hid (Own.mono ho (fun k _ h => (trivial : True)))
  have HOW := Lib.hid ho
  simp only [World.size_alloc] at hgf hgo
  clear hN hf hF hO ho
  go_wp2_with (fail)
  generalize hbn : w.heap.size = bn at *
  refine (wpIn_wide (n := 1)).1 ?_
  refine wpIn_rangeFresh (gf := 46) (lb := #[.pointer (some ⟨bf, 0, none⟩), .pointer (some ⟨bo, 0, none⟩)]) rfl (enters_of Try.func46 (by kernel_rfl) rfl)
    (all_fresh file bs bf bo g c' w1 HF.out HO.out HOB.out hm) KeepAt.trans (keepAt_put (fdOwn_lt HF.out HO.out HOB.out)) (Below.refl _ _) (fun _ => rfl)
    (fun pre W => W.heap[bn]? = some (.cells #[.int .i64 (whOf (pre.map Fd.key))] 3 (0, 0)) ∧ Fr (fun k => k = bn) w1 W) (fun _ _ _ => False) ?own (fun _ _ _ _ _ h _ _ => h) ⟨HN.out, Fr.refl _ _⟩
    (FdNext.fr) (fun _ _ _ _ _ _ h hr => FdNext.put _ _ _ _ _ _ h hr) ?round ?done ?stop
  case own =>
    intro s A B row ⟨h1, h2⟩ hg hr
    exact ⟨(hg.block bn (lt_of_heap h1) (fun e => by have := (hr _ e.symm).1; have := lt_of_heap HN.out; omega)).trans h1, h2.grown hg (fun k e => .inr (hr k e).1)⟩
  case round =>
    rintro l pre x V W1 W ⟨hi, hf⟩ ⟨hx, hox, hfx⟩
    obtain ⟨hb0, hb1⟩ := fd_bound hx
    obtain ⟨xp, xs, xv⟩ := x
    dsimp only at hb0 hb1 hox
    obtain ⟨xa, xc, rfl⟩ := ob_shape hox
    have hiW := hfx.get hi id
    have i0 : W.cell? ⟨bn, 0, none⟩ = some (.int .i64 (whOf (pre.map Fd.key))) := cell_is hiW 0 rfl
    have i1 := frozen_of hiW 0
    have HI := Lib.hid hiW
    have HFX := Lib.hid (hf.trans hfx (fun _ _ h => h.elim))
    clear hi hf hx hox hfx hiW
    generalize whOf (pre.map Fd.key) = z at *
    gi_wp2
    refine ⟨trivial, ?_⟩
    gi_wp2
    refine ⟨(KeepsOthers.setCell W _ _).from _, KeepAt.of_fr ((Fr.refl (fun k => k = bn) W).setCell (p := ⟨bn, 0, none⟩) (.inl rfl) _) (fun k hk => ⟨?_, ?_⟩), ?_, HFX.out.setCell (p := ⟨bn, 0, none⟩) (.inl rfl) _⟩
    · exact Nat.lt_of_lt_of_le (fdOwn_lt HF.out HO.out HOB.out k hk) HFX.out.size
    · rcases hk with rfl | rfl | hk
      · omega
      · omega
      · have : bn + 1 ≤ k := by
          have h := (Own.block HOW.out k hk).1
          simp at h
          omega
        omega
    · have h := heap_setCell_eq 0 (.int .i64 (xp + 8 + (xs.length : Int))) HI.out
      rw [List.map_append, List.map_cons, List.map_nil, whOf_snoc]
      simpa [Fd.key] using h
  case done =>
    rintro D ys W hD hys ⟨hi, hf⟩ hK
    rw [hys] at hi
    have i0 : W.cell? ⟨bn, 0, none⟩ = some (.int .i64 (whOf (frames file 0 bs))) := cell_is hi 0 rfl
    have HFW := Lib.hid hf
    have HK := Lib.hid hK
    clear hi hf hK hys
    go_wp2_with (fail)
    refine ⟨by simp, .inl ⟨_, _, rfl, run_takeDeferred HK.out, ?_⟩⟩
    refine ⟨.int .i64 (whOf (frames file 0 bs)), ?_, rfl, ((HF0.out.trans HFW.out (fun k hk e => by omega)).putObj (.inr (Nat.le_trans HF0.out.size hD)) _)⟩
    simp [results, Try.f28, go_sem]
  case stop =>
    rintro D c pre W _ _ h _
    exact h.elim

end Go.Proofs.Ytgobbgklmjnnlaa
