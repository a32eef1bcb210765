/- The orders of the statements on heaps of numbers' pairs; among, digits, made. -/
import Derived.Test.YtikimfdijkejpaaHTGet
import Derived.Shelf.Abstract
namespace Go.Proofs.Ytikimfdijkejpaa.HT
open Go.RowKit Go.Sb

def kRise (x : Int × Int) : Int := x.1
def kFall (x : Int × Int) : Int := -x.1
def kRound (x : Int × Int) : Int := x.1.tmod 4
def wKey (way : Int) : Int × Int → Int := if way = 0 then kRise else if way = 1 then kFall else kRound

theorem fr_new (w : World) (a b : Obj) : Fr (fun _ => False) w ((w.alloc a).alloc b) := ((Fr.refl _ _).alloc _).alloc _

set_option maxRecDepth 100000 in
set_option maxHeartbeats 1000000 in
theorem before_any (way : Int) (x y : Int × Int) (w : World) (hw : way = 0 ∨ way = 1 ∨ way = 2) :
    Calls Try.prog 74 #[.int .i64 way, thV x, thV y] w fun e w' => e = .returned (.bool (bk (wKey way) x y)) ∧ Fr (fun _ => False) w w' := by
  obtain ⟨xr, xm⟩ := x
  obtain ⟨yr, ym⟩ := y
  unfold thV
  rcases hw with rfl | rfl | rfl
  · go_enter Try.func74, Try.ntmps74
    go_wp2_with (fail)
    go_ret
    exact ⟨rfl, fr_new _ _ _⟩
  · go_enter Try.func74, Try.ntmps74
    go_wp2_with (fail)
    go_ret
    refine ⟨?_, fr_new _ _ _⟩
    have : decide (yr < xr) = bk (wKey 1) (xr, xm) (yr, ym) := by
      unfold bk wKey kFall
      simp
    rw [← this]
    rfl
  · go_enter Try.func74, Try.ntmps74
    go_wp2_with (fail)
    go_ret
    exact ⟨rfl, fr_new _ _ _⟩

def noSt (_ : Nat) (_ : World) : Prop := True
def noSb (_ : Nat) : Prop := False
def anyX (_ : Int × Int) : Prop := True

set_option maxRecDepth 100000 in
set_option maxHeartbeats 1000000 in
theorem rise_spec : BSpec Try.prog 52 #[] thV anyX (bk kRise) noSt noSb := by
  refine ⟨fun x y c W _ _ _ => ?_, enters_of Try.func52 (by kernel_rfl) rfl, fun _ _ _ _ _ _ _ => trivial⟩
  obtain ⟨xr, xm⟩ := x
  obtain ⟨yr, ym⟩ := y
  show Calls Try.prog 52 #[.agg #[.int .i64 xr, .int .i64 xm], .agg #[.int .i64 yr, .int .i64 ym]] W _
  go_enter Try.func52, Try.ntmps52
  go_wp2_with (go_at_call 74; refine (before_any 0 (xr, xm) (yr, ym) _ (.inl rfl)).mono ?_; rintro e w1 ⟨rfl, hf⟩; have HF := Lib.hid hf; clear hf)
  go_ret
  exact ⟨rfl, (fr_new _ _ _).trans (HF.out.mono (fun _ _ h => h)) (fun _ _ h => h), trivial⟩

set_option maxRecDepth 100000 in
set_option maxHeartbeats 1000000 in
theorem fall_spec : BSpec Try.prog 53 #[] thV anyX (bk kFall) noSt noSb := by
  refine ⟨fun x y c W _ _ _ => ?_, enters_of Try.func53 (by kernel_rfl) rfl, fun _ _ _ _ _ _ _ => trivial⟩
  obtain ⟨xr, xm⟩ := x
  obtain ⟨yr, ym⟩ := y
  show Calls Try.prog 53 #[.agg #[.int .i64 xr, .int .i64 xm], .agg #[.int .i64 yr, .int .i64 ym]] W _
  go_enter Try.func53, Try.ntmps53
  go_wp2_with (go_at_call 74; refine (before_any 1 (xr, xm) (yr, ym) _ (.inr (.inl rfl))).mono ?_; rintro e w1 ⟨rfl, hf⟩; have HF := Lib.hid hf; clear hf)
  go_ret
  exact ⟨rfl, (fr_new _ _ _).trans (HF.out.mono (fun _ _ h => h)) (fun _ _ h => h), trivial⟩

set_option maxRecDepth 100000 in
set_option maxHeartbeats 1000000 in
theorem round_spec : BSpec Try.prog 54 #[] thV anyX (bk kRound) noSt noSb := by
  refine ⟨fun x y c W _ _ _ => ?_, enters_of Try.func54 (by kernel_rfl) rfl, fun _ _ _ _ _ _ _ => trivial⟩
  obtain ⟨xr, xm⟩ := x
  obtain ⟨yr, ym⟩ := y
  show Calls Try.prog 54 #[.agg #[.int .i64 xr, .int .i64 xm], .agg #[.int .i64 yr, .int .i64 ym]] W _
  go_enter Try.func54, Try.ntmps54
  go_wp2_with (go_at_call 74; refine (before_any 2 (xr, xm) (yr, ym) _ (.inr (.inr rfl))).mono ?_; rintro e w1 ⟨rfl, hf⟩; have HF := Lib.hid hf; clear hf)
  go_ret
  exact ⟨rfl, (fr_new _ _ _).trans (HF.out.mono (fun _ _ h => h)) (fun _ _ h => h), trivial⟩

def wFid (way : Int) : Nat := if way = 0 then 52 else if way = 1 then 53 else 54

theorem way_spec (way : Int) (hw : way = 0 ∨ way = 1 ∨ way = 2) : BSpec Try.prog (wFid way) #[] thV anyX (bk (wKey way)) noSt noSb := by
  rcases hw with rfl | rfl | rfl
  · exact rise_spec
  · exact fall_spec
  · exact round_spec

set_option maxHeartbeats 1000000 in
theorem made_any (way : Int) (w : World) (hw : way = 0 ∨ way = 1 ∨ way = 2) :
    Calls Try.prog 30 #[.int .i64 way] w fun e w' => ∃ bh bm, e = .returned (.pointer (some ⟨bh, 0, none⟩)) ∧ HRep 99 101 3 (fun k => w.heap.size ≤ k) w' bh (.func (.func (wFid way)) #[] #[]) 0 (([] : List (Int × (Int × Int))).map en) (.slice none 0 0) bm [] ∧ Fr (fun _ => False) w w' := by
  rcases hw with rfl | rfl | rfl
  · go_enter Try.func30, Try.ntmps30
    go_wp2_with (go_at_call 22; refine (new_any 52 #[] w).mono ?_; rintro e w1 ⟨bh, bm, rfl, hr, hf⟩; have HR := Lib.hid hr; have HF := Lib.hid hf; clear hr hf)
    go_ret
    exact ⟨bh, bm, rfl, HR.out, HF.out⟩
  · go_enter Try.func30, Try.ntmps30
    go_wp2_with (go_at_call 22; refine (new_any 53 #[] w).mono ?_; rintro e w1 ⟨bh, bm, rfl, hr, hf⟩; have HR := Lib.hid hr; have HF := Lib.hid hf; clear hr hf)
    go_ret
    exact ⟨bh, bm, rfl, HR.out, HF.out⟩
  · go_enter Try.func30, Try.ntmps30
    go_wp2_with (go_at_call 22; refine (new_any 54 #[] w).mono ?_; rintro e w1 ⟨bh, bm, rfl, hr, hf⟩; have HR := Lib.hid hr; have HF := Lib.hid hf; clear hr hf)
    go_ret
    exact ⟨bh, bm, rfl, HR.out, HF.out⟩

theorem tmod_lt (i n : Int) (hn : 1 ≤ n) : -n < i.tmod n ∧ i.tmod n < n := by
  have h := Int.tmod_lt_of_pos i (show 0 < n by omega)
  have h2 := Int.lt_tmod_of_pos i (show 0 < n by omega)
  exact ⟨h2, h⟩

theorem tmod_emod (i n : Int) (hn : 1 ≤ n) : i % n = if i.tmod n < 0 then i.tmod n + n else i.tmod n := by
  have h1 := Int.tmod_add_mul_tdiv i n
  have h2 := tmod_lt i n hn
  split
  · rename_i h
    have : i = (i.tmod n + n) + n * (i.tdiv n - 1) := by rw [Int.mul_sub]; omega
    rw [this, Int.add_mul_emod_self_left]
    have h3 : (i.tmod n + n + n * (i.tdiv n - 1)).tmod n = i.tmod n := by rw [← this]
    rw [h3]
    exact Int.emod_eq_of_lt (by omega) (by omega)
  · rename_i h
    conv => lhs; rw [← h1]
    rw [Int.add_mul_emod_self_left]
    exact Int.emod_eq_of_lt (by omega) (by omega)

set_option maxHeartbeats 1000000 in
theorem among_any (i n : Int) (w : World) (hn : 1 ≤ n) (hn2 : n ≤ 4611686018427387904) :
    Calls Try.prog 18 #[.int .i64 i, .int .i64 n] w fun e w' => e = .returned (.int .i64 (i % n)) ∧ w = w' := by
  have he := tmod_emod i n hn
  have hb := tmod_lt i n hn
  by_cases h0 : 0 ≤ i
  · have h1 : 0 ≤ i % n := Int.emod_nonneg _ (by omega)
    have h2 : ¬ i % n < 0 := by omega
    clear he hb
    go_enter Try.func18, Try.ntmps18
    go_wp2_with (fail)
    go_ret
    exact ⟨rfl, rfl⟩
  · by_cases h3 : i.tmod n < 0
    · rw [if_pos h3] at he
      have HE := Lib.hid he
      clear he
      go_enter Try.func18, Try.ntmps18
      go_wp2_with (fail)
      go_ret
      rw [HE.out]
      exact ⟨rfl, rfl⟩
    · rw [if_neg h3] at he
      have HE := Lib.hid he
      clear he
      go_enter Try.func18, Try.ntmps18
      go_wp2_with (fail)
      go_ret
      rw [HE.out]
      exact ⟨rfl, rfl⟩

set_option maxHeartbeats 1000000 in
theorem digits_any (n : Nat) (w : World) (hn : n ≤ 4611686018427387904) :
    Calls Try.prog 24 #[.int .i64 (n : Int)] w fun e w' => e = .returned (.int .i64 ((Nat.log2 n + 1 : Nat) : Int)) ∧ w = w' := by
  go_enter Try.func24, Try.ntmps24
  go_wp2_with (fail)
  go_loop [0, 3] (fun s d => ∃ k j : Nat, k ≤ n ∧ s = .int .i64 (k : Int) ∧ d = .int .i64 (j : Int) ∧ j + Nat.log2 k = Nat.log2 n + 1) (fun s _ => (intOf s).toNat)
  case atStart => exact ⟨n, 1, Nat.le_refl _, rfl, rfl, by omega⟩
  case round =>
    obtain ⟨k, j, hk, rfl, rfl, hj⟩ := hrel
    have hlb : Nat.log2 n ≤ n := Nat.log2_le_self n
    by_cases h2 : 1 < k
    · have hl := log_half (n := k) (by omega)
      have HL := Lib.hid hl
      have HJ := Lib.hid hj
      have hjb : j ≤ n + 1 := by omega
      clear hl hj
      go_wp2_with (fail)
      have hl := HL.out
      have hj := HJ.out
      go_round
      case rel => exact ⟨k / 2, j + 1, by omega, by go_num, by go_num, by omega⟩
      case measure => simp [intOf]; omega
    · have hl0 : Nat.log2 k = 0 := by rw [Nat.log2_def, if_neg (by omega)]
      have HJ : Hid (j = Nat.log2 n + 1) := Lib.hid (by omega)
      clear hj hl0
      go_wp2_with (fail)
      go_ret
      have hj2 : ((Nat.log2 n : Nat) : Int) + 1 = (j : Int) := by have := HJ.out; omega
      rw [hj2]
      exact ⟨rfl, rfl⟩

/-- The heap of the first example. -/
theorem shown_list : pushL kRise (pushL kRise [] (1, (5, 0))) (2, (3, 0)) = [(2, (3, 0)), (1, (5, 0))] := by
  have h1 : pushL kRise [] (1, (5, 0)) = [(1, (5, 0))] := upL_no (by simp)
  rw [h1]
  show upL kRise [(1, (5, 0)), (2, (3, 0))] 1 = _
  rw [upL_yes (by decide) (by decide)]
  exact upL_no (by simp)

end Go.Proofs.Ytikimfdijkejpaa.HT
