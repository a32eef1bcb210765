/- 'Take' of the frame. -/
import Derived.Test.YtgobbgklmjnnlaaFrTake
namespace Go.Proofs.Ytgobbgklmjnnlaa
open Go.RowKit Go.Sb

set_option maxRecDepth 100000 in
set_option maxHeartbeats 1000000 in
theorem clone_some (b o n c : Nat) (xs : List UInt8) (w : World) (hv : RB w (.slice (some ⟨b, o, none⟩) n c) xs) (hm : xs.length ≤ 140737488360000) :
    Calls Try.prog 42 #[.slice (some ⟨b, o, none⟩) n c] w (NewBytes w xs) := by
  have HV := Lib.hid hv
  clear hv
  have hnil := fun (w : World) => Lib.run_eql_slice_nil (P := Try.prog) w 22 5 (some ⟨b, o, none⟩) n c 0 0 Try.underlying22
  simp only [Option.isNone_some] at hnil
  go_enter Try.func42, Try.ntmps42
  go_wp2_with (at_builtin; refine wpList_append_Own _ rfl _ _ 22 rfl 5 (.int .u8 0) 1 1 Try.underlying22 Try.info5 rfl (by decide) (.slice (some ⟨w.heap.size, 0, none⟩) 0 0) 0 [] rfl (empty_src w) (.slice (some ⟨b, o, none⟩) n c) xs.length (xs.map byte) rfl ((HV.out.fr ((Fr.refl _ _).alloc _)).src) (by unfold maxLen; omega) (by omega) ?_; intro v1 w1 hv1 hf1 hn1 _)
  have hf : Fr (fun _ => False) w w1 := ((Fr.refl _ w).alloc _).trans hf1 (fun i hi he => by simp only [Value.ownBlock, Option.some.injEq] at he; omega)
  have HV1 := Lib.hid hv1
  have HF := Lib.hid hf
  have HN := Lib.hid hn1
  clear hv1 hf1 hn1 hf hnil
  go_wp2_with (fail)
  go_ret
  refine ⟨_, rfl, ?_, HF.out, fun h => by have := HN.out.1 h; simp at this⟩
  have h := HV1.out
  rw [Nat.zero_add, List.nil_append] at h
  exact h.mono (fun k _ hk => hk.elim id (fun h => by simp at h; omega))

/-- what a Take answers: an error, or the payload in new memory and the frame's length -/
def TakePost (w : World) (err n : Int) (xs : List UInt8) (e : Ending) (w' : World) : Prop :=
  ∃ v, e = .returned (.tuple #[v, .int .i64 n, .int .i64 err]) ∧ OB 5 (fun k => w.heap.size ≤ k) w' v xs ∧ Fr (fun _ => False) w w'

set_option maxRecDepth 100000 in
set_option maxHeartbeats 1000000 in
theorem take_err (file place : Int) (v : Value) (w : World) (err : Int) (herr : err ≠ 0) (h : Calls Try.prog 41 #[.int .i64 file, .int .i64 place, v] w (CutPost w err [])) :
    Calls Try.prog 24 #[.int .i64 file, .int .i64 place, v] w (TakePost w err 0 []) := by
  have H := Lib.hid h
  have hne : (err != (0 : Int)) = true := by rw [bne_iff_ne]; exact herr
  clear h
  go_enter Try.func24, Try.ntmps24
  go_wp2_with (fail)
  refine H.out.mono ?_
  rintro e w1 ⟨v1, rfl, _, hf1⟩
  have HF := Lib.hid hf1
  clear hf1
  go_wp2_with (fail)
  go_ret3
  exact ⟨_, rfl, OB.nil _ _, HF.out⟩

set_option maxRecDepth 100000 in
set_option maxHeartbeats 1000000 in
theorem take_good (file place : Int) (v : Value) (xs : List UInt8) (w : World) (hx : 0 < xs.length) (hx2 : xs.length ≤ 66000) (h : Calls Try.prog 41 #[.int .i64 file, .int .i64 place, v] w (CutPost w 0 xs)) :
    Calls Try.prog 24 #[.int .i64 file, .int .i64 place, v] w (TakePost w 0 (8 + xs.length : Nat) xs) := by
  have H := Lib.hid h
  clear h
  go_enter Try.func24, Try.ntmps24
  go_wp2_with (fail)
  refine H.out.mono ?_
  rintro e w1 ⟨v1, rfl, hv1, hf1⟩
  have HF := Lib.hid hf1
  have HV := Lib.hid hv1
  rcases hv1.open' with ⟨_, _, _, rfl⟩ | ⟨b, o, c, rfl, _, _, _, _⟩
  · simp at hx
  · clear hf1 hv1
    go_wp2_with (fail)
    refine (clone_some b o xs.length c xs w1 HV.out (by omega)).mono ?_
    rintro e w2 ⟨v2, rfl, hv2, hf2, _⟩
    have HF2 := Lib.hid (none_fr HF.out hf2)
    have HV2 := Lib.hid hv2
    clear hf2 hv2
    go_wp2_with (fail)
    go_ret3
    exact ⟨_, by first | rfl | (congr 4), Own.mono HV2.out (fun k _ h => Nat.le_trans HF.out.size h), HF2.out⟩

instance decPlaced (n : Int) : Decidable (Placed n) := inferInstanceAs (Decidable (0 ≤ n ∧ n ≤ 4611686018427387903))
instance decSumOk (file place : Nat) (bs : List UInt8) : Decidable (SumOk file place bs) := inferInstanceAs (Decidable (markOf bs = (sumOf file place (payOf bs)).toNat))

/-- the error of a Take, by the document -/
def errOf (file place : Int) (bs : List UInt8) : Int :=
  if ¬ (Placed file ∧ Placed place) then 24 else if bs.length = 0 then 20 else if bs.length < 4 then 21 else
  if lenOf bs = 0 ∨ 66000 < lenOf bs then 22 else if bs.length < 8 + lenOf bs then 21 else if SumOk file.toNat place.toNat bs then 0 else 23

def restOf (file place : Int) (bs : List UInt8) : List UInt8 := if errOf file place bs = 0 then payOf bs else []
def manyOf (file place : Int) (bs : List UInt8) : Int := if errOf file place bs = 0 then ((8 + lenOf bs : Nat) : Int) else 0

def TakeAns (w : World) (file place : Int) (bs : List UInt8) : Ending → World → Prop := TakePost w (errOf file place bs) (manyOf file place bs) (restOf file place bs)

theorem ans_err {w : World} {file place : Int} {bs : List UInt8} {err : Int} (he : errOf file place bs = err) (hn : err ≠ 0) : TakeAns w file place bs = TakePost w err 0 [] := by
  unfold TakeAns manyOf restOf
  rw [he, if_neg hn, if_neg hn]

theorem ans_ok {w : World} {file place : Int} {bs : List UInt8} (he : errOf file place bs = 0) : TakeAns w file place bs = TakePost w 0 ((8 + lenOf bs : Nat) : Int) (payOf bs) := by
  unfold TakeAns manyOf restOf
  rw [he, if_pos rfl, if_pos rfl]

theorem Placed.nat {n : Int} (h : Placed n) : ∃ k : Nat, n = (k : Int) ∧ k ≤ 4611686018427387903 := by
  obtain ⟨h0, h1⟩ := h
  exact ⟨n.toNat, by omega, by omega⟩

theorem take_any (file place : Int) (v : Value) (bs : List UInt8) (w : World) (hv : RB w v bs) : Calls Try.prog 24 #[.int .i64 file, .int .i64 place, v] w (TakeAns w file place bs) := by
  by_cases hp : Placed file ∧ Placed place
  · obtain ⟨hf, hpl⟩ := hp
    have hlm := hv.len
    unfold maxLen at hlm
    by_cases h4 : bs.length < 4
    · obtain ⟨a, c, rfl, _⟩ := hv
      by_cases h0 : bs.length = 0
      · have he : errOf file place bs = 20 := by unfold errOf; simp [hf, hpl, h0]
        rw [ans_err he (by decide)]
        have := cut_short file place a bs.length c w hf hpl h4
        rw [if_pos h0] at this
        exact take_err file place _ w 20 (by decide) this
      · have he : errOf file place bs = 21 := by unfold errOf; rw [if_neg (by simp [hf, hpl]), if_neg h0, if_pos h4]
        rw [ans_err he (by decide)]
        have := cut_short file place a bs.length c w hf hpl h4
        rw [if_neg h0] at this
        exact take_err file place _ w 21 (by decide) this
    · rcases hv.open' with ⟨_, _, _, rfl⟩ | ⟨b, o, c, rfl, hc1, hc2, _, hc⟩
      · simp at h4
      · by_cases hl : lenOf bs = 0 ∨ 66000 < lenOf bs
        · have he : errOf file place bs = 22 := by unfold errOf; rw [if_neg (by simp [hf, hpl]), if_neg (by omega), if_neg h4, if_pos hl]
          rw [ans_err he (by decide)]
          exact take_err file place _ w 22 (by decide) (cut_long file place b o c bs w hf hpl (by omega) (by omega) hc hl)
        · by_cases ht : bs.length < 8 + lenOf bs
          · have he : errOf file place bs = 21 := by unfold errOf; rw [if_neg (by simp [hf, hpl]), if_neg (by omega), if_neg h4, if_neg hl, if_pos ht]
            rw [ans_err he (by decide)]
            exact take_err file place _ w 21 (by decide) (cut_torn file place b o c bs w hf hpl (by omega) (by omega) hc (by omega) ht)
          · obtain ⟨f, rfl, hf1⟩ := hf.nat
            obtain ⟨p, rfl, hp1⟩ := hpl.nat
            by_cases hs : SumOk f p bs
            · have he : errOf f p bs = 0 := by unfold errOf; rw [if_neg (by simp [hf, hpl]), if_neg (by omega), if_neg h4, if_neg hl, if_neg ht, if_pos (by simpa using hs)]
              rw [ans_ok he]
              have hpl := payOf_length (bs := bs) (by omega)
              have := take_good f p _ (payOf bs) w (by omega) (by omega) (cut_ok f p b o c bs w hf1 hp1 hc1 hc2 hc (by omega) (by omega) hs)
              rw [hpl] at this
              exact this
            · have he : errOf f p bs = 23 := by unfold errOf; rw [if_neg (by simp [hf, hpl]), if_neg (by omega), if_neg h4, if_neg hl, if_neg ht, if_neg (by simpa using hs)]
              rw [ans_err he (by decide)]
              exact take_err f p _ w 23 (by decide) (cut_bad f p b o c bs w hf1 hp1 hc1 hc2 hc (by omega) (by omega) hs)
  · have he : errOf file place bs = 24 := by unfold errOf; rw [if_pos hp]
    rw [ans_err he (by decide)]
    exact take_err file place v w 24 (by decide) (cut_arg file place v w hp)

end Go.Proofs.Ytgobbgklmjnnlaa
