/- 'sum', 'Make' of the frame and of the reference. -/
import Derived.Test.YtgobbgklmjnnlaaFrRef
import Derived.Test.YtgobbgklmjnnlaaFrSum
namespace Go.Proofs.Ytgobbgklmjnnlaa
open Go.RowKit Go.Sb

theorem overB_app (r : BitVec 32) (xs ys : List UInt8) : overB (overB r xs) ys = overB r (xs ++ ys) := by
  simp [overB, List.foldl_append]

/-- what a frame's sum is over -/
def sumOf (file place : Nat) (ps : List UInt8) : BitVec 32 := crcB (le file 8 ++ le place 8 ++ ps)

def IntPost (n : Nat) (w : World) (e : Ending) (w' : World) : Prop := e = .returned (.int .i64 (n : Int)) ∧ Fr (fun _ => False) w w'

theorem Fr.outside {w a b : World} {g : Nat} (h : Fr (fun _ => False) w a) (k : Fr (fun x => x = g) a b) (hg : w.heap.size ≤ g) : Fr (fun _ => False) w b :=
  h.trans k (fun i hi he => by omega)

set_option maxRecDepth 100000 in
set_option maxHeartbeats 1000000 in
theorem fsum_any (file place : Nat) (v : Value) (ps : List UInt8) (w : World) (hv : RB w v ps) (hf : file ≤ 4611686018427387903) (hp : place ≤ 4611686018427387903) :
    Calls Try.prog 37 #[.int .i64 (file : Int), .int .i64 (place : Int), v] w (IntPost (sumOf file place ps).toNat w) := by
  have HV := Lib.hid hv
  clear hv
  go_enter Try.func37, Try.ntmps37
  go_wp2_with (fail)
  refine (table_any w).mono ?_
  rintro e w1 ⟨rfl, rfl⟩
  have h0 : (World.alloc w (.cells tabA 56)).heap.size = w.heap.size + 1 := by simp
  go_wp2_with ((refine store_guard _ _ _ _ rfl ?_); refine wpList_store_agg _ rfl _ _ 56 rfl (w.heap.size + 1) 56 _ tabA rfl rfl (by kernel_rfl) (heap_alloc_at _ _ _ (by simp)) rfl tabA_one ?_; intro w1 hw1 hf1)
  have hf : Fr (fun _ => False) w w1 := (((Fr.refl _ _).alloc _).alloc _).trans hf1 (fun i hi he => absurd (show i = w.heap.size + 1 from he) (by omega))
  have HF := Lib.hid hf
  have HW := Lib.hid hw1
  clear hf hf1 hw1 h0
  go_wp2_with (fail)
  refine (laid_any file 8 w1 (by omega) (by decide)).mono ?_
  rintro e w2 ⟨v2, rfl, hv2, hf2, _⟩
  have HV2 := Lib.hid hv2.rb
  have HF2 := Lib.hid (HF.out.trans hf2 (fun _ _ h => h))
  have HW2 := Lib.hid (hf2.get HW.out (fun h => h))
  have hp : ((BitVec.allOnes 32).toNat : Int) = 4294967295 := by decide
  have hca := over_any (BitVec.allOnes 32) (w.heap.size + 1) v2 _ w2 HV2.out HW2.out
  rw [hp] at hca
  have HCA := Lib.hid hca
  clear hp hca hv2 hf2
  go_wp2_with (fail)
  refine HCA.out.mono ?_
  rintro e w3 ⟨rfl, rfl⟩
  obtain ⟨r1, hr1⟩ : ∃ r1, overB (BitVec.allOnes 32) (le file 8) = r1 := ⟨_, rfl⟩
  rw [hr1]
  have HR1 := Lib.hid hr1
  clear hr1 HCA
  go_wp2_with (fail)
  refine (laid_any place 8 w2 (by omega) (by decide)).mono ?_
  rintro e w4 ⟨v4, rfl, hv4, hf4, _⟩
  have HF4 := Lib.hid (HF2.out.trans hf4 (fun _ _ h => h))
  have HW4 := Lib.hid (hf4.get HW2.out (fun h => h))
  have HCA := Lib.hid (over_any r1 (w.heap.size + 1) v4 _ w4 hv4.rb HW4.out)
  clear hv4 hf4
  go_wp2_with (fail)
  refine HCA.out.mono ?_
  rintro e w5 ⟨rfl, rfl⟩
  obtain ⟨r2, hr2⟩ : ∃ r2, overB r1 (le place 8) = r2 := ⟨_, rfl⟩
  rw [hr2]
  have HR2 := Lib.hid hr2
  clear hr2 HCA
  have HCB := Lib.hid (over_any r2 (w.heap.size + 1) v _ w4 (HV.out.fr HF4.out) HW4.out)
  go_wp2_with (fail)
  refine HCB.out.mono ?_
  rintro e w5 ⟨rfl, rfl⟩
  obtain ⟨r3, hr3⟩ : ∃ r3, overB r2 ps = r3 := ⟨_, rfl⟩
  rw [hr3]
  have HR3 := Lib.hid hr3
  clear hr3 HCB
  obtain ⟨n, hn, hnl⟩ : ∃ n : Nat, (~~~ r3).toNat = n ∧ n ≤ 4294967295 := ⟨_, rfl, by have := (~~~ r3).isLt; omega⟩
  have hnot : bits .xor .u32 IntKind.u32.max (r3.toNat : Int) = (n : Int) := by
    rw [← hn]
    exact bits_not32 r3
  have HN := Lib.hid hn
  clear hn
  go_wp2_with (fail)
  go_ret
  refine ⟨?_, HF4.out⟩
  have e : sumOf file place ps = ~~~ r3 := by
    unfold sumOf crcB
    rw [← HR3.out, ← HR2.out, ← HR1.out, overB_app, overB_app, List.append_assoc]
  rw [e, HN.out]
  show Ending.returned (.int .i64 (wrap64 (n : Int))) = _
  rw [IntWalk.wrap64_in _ ⟨by omega, by omega⟩]

def Placed (n : Int) : Prop := 0 ≤ n ∧ n ≤ 4611686018427387903

theorem placed_yes (n : Int) (w : World) (h : Placed n) : Calls Try.prog 35 #[.int .i64 n] w fun e w' => e = .returned (.bool true) ∧ w = w' := by
  obtain ⟨h0, h1⟩ := h
  go_enter Try.func35, Try.ntmps35
  go_wp2_with (fail)
  go_ret
  exact ⟨rfl, rfl⟩

theorem placed_no (n : Int) (w : World) (h : ¬ Placed n) : Calls Try.prog 35 #[.int .i64 n] w fun e w' => e = .returned (.bool false) ∧ w = w' := by
  by_cases h0 : 0 ≤ n
  · have h1 : ¬ n ≤ 4611686018427387903 := fun h1 => h ⟨h0, h1⟩
    clear h
    go_enter Try.func35, Try.ntmps35
    go_wp2_with (fail)
    go_ret
    exact ⟨rfl, rfl⟩
  · clear h
    go_enter Try.func35, Try.ntmps35
    go_wp2_with (fail)
    go_ret
    exact ⟨rfl, rfl⟩

theorem placed_yesR (n : Int) (w : World) (h : Placed n) : Calls Try.prog 38 #[.int .i64 n] w fun e w' => e = .returned (.bool true) ∧ w = w' := by
  obtain ⟨h0, h1⟩ := h
  go_enter Try.func38, Try.ntmps38
  go_wp2_with (fail)
  go_ret
  exact ⟨rfl, rfl⟩

theorem placed_noR (n : Int) (w : World) (h : ¬ Placed n) : Calls Try.prog 38 #[.int .i64 n] w fun e w' => e = .returned (.bool false) ∧ w = w' := by
  by_cases h0 : 0 ≤ n
  · have h1 : ¬ n ≤ 4611686018427387903 := fun h1 => h ⟨h0, h1⟩
    clear h
    go_enter Try.func38, Try.ntmps38
    go_wp2_with (fail)
    go_ret
    exact ⟨rfl, rfl⟩
  · clear h
    go_enter Try.func38, Try.ntmps38
    go_wp2_with (fail)
    go_ret
    exact ⟨rfl, rfl⟩

/-- the frame's bytes -/
def frameOf (file place : Nat) (ps : List UInt8) : List UInt8 := le ps.length 4 ++ le (sumOf file place ps).toNat 4 ++ ps

def MakePost (w : World) (err : Int) (xs : List UInt8) (e : Ending) (w' : World) : Prop :=
  ∃ v, e = .returned (.tuple #[v, .int .i64 err]) ∧ OB 5 (fun k => w.heap.size ≤ k) w' v xs ∧ Fr (fun _ => False) w w'

theorem hv3_of {F : Nat → Prop} {w w' : World} {v : Value} {xs : List UInt8} (h : OB 5 F w v xs) (hf : Fr (fun _ => False) w w') : OB 5 F w' v xs := Own.fr h hf (fun _ _ _ h => h)

theorem OB.nil (F : Nat → Prop) (w : World) : OB 5 F w (.slice none 0 0) [] := Own.nil 5 1 F w

set_option maxRecDepth 100000 in
set_option maxHeartbeats 1000000 in
theorem make_arg (file place : Int) (v : Value) (w : World) (h : ¬ (Placed file ∧ Placed place)) :
    Calls Try.prog 18 #[.int .i64 file, .int .i64 place, v] w (MakePost w 24 []) := by
  by_cases hf : Placed file
  · have hp : ¬ Placed place := fun hp => h ⟨hf, hp⟩
    have HF := Lib.hid (placed_yes file w hf)
    have HP := Lib.hid (placed_no place w hp)
    clear h hf hp
    go_enter Try.func18, Try.ntmps18
    go_wp2_with (fail)
    refine HF.out.mono ?_
    rintro e w1 ⟨rfl, rfl⟩
    go_wp2_with (fail)
    refine HP.out.mono ?_
    rintro e w1 ⟨rfl, rfl⟩
    go_wp2_with (fail)
    go_ret2
    exact ⟨_, rfl, OB.nil _ _, Fr.refl _ _⟩
  · have HF := Lib.hid (placed_no file w hf)
    clear h hf
    go_enter Try.func18, Try.ntmps18
    go_wp2_with (fail)
    refine HF.out.mono ?_
    rintro e w1 ⟨rfl, rfl⟩
    go_wp2_with (fail)
    go_ret2
    exact ⟨_, rfl, OB.nil _ _, Fr.refl _ _⟩

set_option maxRecDepth 100000 in
set_option maxHeartbeats 1000000 in
theorem make_long (file place : Int) (a : Option Addr) (n c : Nat) (w : World) (hf : Placed file) (hp : Placed place) (hl : n = 0 ∨ 66000 < n) :
    Calls Try.prog 18 #[.int .i64 file, .int .i64 place, .slice a n c] w (MakePost w 22 []) := by
  have HF := Lib.hid (placed_yes file w hf)
  have HP := Lib.hid (placed_yes place w hp)
  clear hf hp
  rcases hl with rfl | hl
  all_goals
    go_enter Try.func18, Try.ntmps18
    go_wp2_with (fail)
    refine HF.out.mono ?_
    rintro e w1 ⟨rfl, rfl⟩
    go_wp2_with (fail)
    refine HP.out.mono ?_
    rintro e w1 ⟨rfl, rfl⟩
    (try (have hz : ((n : Int) == 0) = false := by simp; omega))
    go_wp2_with (fail)
    go_ret2
    exact ⟨_, rfl, OB.nil _ _, Fr.refl _ _⟩

set_option maxRecDepth 100000 in
set_option maxHeartbeats 1000000 in
theorem make_argR (file place : Int) (v : Value) (w : World) (h : ¬ (Placed file ∧ Placed place)) :
    Calls Try.prog 19 #[.int .i64 file, .int .i64 place, v] w (MakePost w 24 []) := by
  by_cases hf : Placed file
  · have hp : ¬ Placed place := fun hp => h ⟨hf, hp⟩
    have HF := Lib.hid (placed_yesR file w hf)
    have HP := Lib.hid (placed_noR place w hp)
    clear h hf hp
    go_enter Try.func19, Try.ntmps19
    go_wp2_with (fail)
    refine HF.out.mono ?_
    rintro e w1 ⟨rfl, rfl⟩
    go_wp2_with (fail)
    refine HP.out.mono ?_
    rintro e w1 ⟨rfl, rfl⟩
    go_wp2_with (fail)
    go_ret2
    exact ⟨_, rfl, OB.nil _ _, Fr.refl _ _⟩
  · have HF := Lib.hid (placed_noR file w hf)
    clear h hf
    go_enter Try.func19, Try.ntmps19
    go_wp2_with (fail)
    refine HF.out.mono ?_
    rintro e w1 ⟨rfl, rfl⟩
    go_wp2_with (fail)
    go_ret2
    exact ⟨_, rfl, OB.nil _ _, Fr.refl _ _⟩

set_option maxRecDepth 100000 in
set_option maxHeartbeats 1000000 in
theorem make_longR (file place : Int) (a : Option Addr) (n c : Nat) (w : World) (hf : Placed file) (hp : Placed place) (hl : n = 0 ∨ 66000 < n) :
    Calls Try.prog 19 #[.int .i64 file, .int .i64 place, .slice a n c] w (MakePost w 22 []) := by
  have HF := Lib.hid (placed_yesR file w hf)
  have HP := Lib.hid (placed_yesR place w hp)
  clear hf hp
  rcases hl with rfl | hl
  all_goals
    go_enter Try.func19, Try.ntmps19
    go_wp2_with (fail)
    refine HF.out.mono ?_
    rintro e w1 ⟨rfl, rfl⟩
    go_wp2_with (fail)
    refine HP.out.mono ?_
    rintro e w1 ⟨rfl, rfl⟩
    (try (have hz : ((n : Int) == 0) = false := by simp; omega))
    go_wp2_with (fail)
    go_ret2
    exact ⟨_, rfl, OB.nil _ _, Fr.refl _ _⟩

set_option maxRecDepth 100000 in
set_option maxHeartbeats 1000000 in
theorem make_ok (file place : Nat) (v : Value) (ps : List UInt8) (w : World) (hv : RB w v ps) (hf : file ≤ 4611686018427387903) (hp : place ≤ 4611686018427387903) (h0 : 0 < ps.length) (h1 : ps.length ≤ 66000) :
    Calls Try.prog 18 #[.int .i64 (file : Int), .int .i64 (place : Int), v] w (MakePost w 0 (frameOf file place ps)) := by
  have HV := Lib.hid hv
  have HF := Lib.hid (placed_yes file w ⟨by omega, by omega⟩)
  have HP := Lib.hid (placed_yes place w ⟨by omega, by omega⟩)
  have hlen : ((ps.length : Int) == 0) = false := by simp only [beq_eq_false_iff_ne, ne_eq]; omega
  obtain ⟨a, c, rfl, _⟩ := hv
  go_enter Try.func18, Try.ntmps18
  go_wp2_with (fail)
  refine HF.out.mono ?_
  rintro e w1 ⟨rfl, rfl⟩
  go_wp2_with (fail)
  refine HP.out.mono ?_
  rintro e w1 ⟨rfl, rfl⟩
  clear HF HP
  go_wp2_with (fail)
  refine (laid_any ps.length 4 w (by omega) (by decide)).mono ?_
  rintro e w2 ⟨v2, rfl, hv2, hf2, _⟩
  have HV2 := Lib.hid hv2
  have HF2 := Lib.hid hf2
  clear hv2 hf2
  go_wp2_with (fail)
  refine (fsum_any file place _ ps w2 (HV.out.fr HF2.out) hf hp).mono ?_
  rintro e w3 ⟨rfl, hf3⟩
  have HF3 := Lib.hid (HF2.out.trans hf3 (fun _ _ h => h))
  have HV3 := Lib.hid (hv3_of HV2.out hf3)
  have hsl : (sumOf file place ps).toNat ≤ 4294967295 := Nat.le_of_lt_succ (sumOf file place ps).isLt
  obtain ⟨s, hs⟩ : ∃ s, (sumOf file place ps).toNat = s := ⟨_, rfl⟩
  rw [hs] at hsl ⊢
  have HS := Lib.hid hs
  clear hf3 hs
  go_wp2_with (fail)
  refine (laid_any s 4 w3 (by omega) (by decide)).mono ?_
  rintro e w4 ⟨v4, rfl, hv4, hf4, _⟩
  have HF4 := Lib.hid (HF3.out.trans hf4 (fun _ _ h => h))
  have HV4 := Lib.hid (hv3_of HV3.out hf4)
  have HL4 := Lib.hid hv4
  clear hv4 hf4
  go_wp2_with (first
    | (at_builtin; refine wpList_append_Own _ rfl _ _ 22 rfl 5 (.int .u8 0) 1 1 Try.underlying22 Try.info5 rfl (by decide) v2 _ _ rfl HV4.out v4 _ _ rfl HL4.out.rb.src (by simp only [le_length]; unfold maxLen; omega) (by simp only [le_length]; omega) ?_; intro v5 w5 hv5 hf5 _ _; have HV5 := Lib.hid (OB.app (G := fun k => w.heap.size ≤ k) hv5 (fun _ h => h) (fun k h => Nat.le_trans HF4.out.size h)); have HF5 := Lib.hid (HF4.out.trans hf5 (fun j hj he => absurd (HV4.out.block j he).1 (by omega))); have HP5 := Lib.hid (HV.out.fr HF5.out); clear hv5 hf5)
    | (at_builtin; refine wpList_append_Own _ rfl _ _ 22 rfl 5 (.int .u8 0) 1 1 Try.underlying22 Try.info5 rfl (by decide) v5 _ _ rfl HV5.out _ _ _ rfl HP5.out.src (by simp only [List.length_append, le_length]; unfold maxLen; omega) (by simp only [List.length_append, le_length]; omega) ?_; intro v6 w6 hv6 hf6 _ _))
  go_ret2
  refine ⟨_, rfl, ?_, HF5.out.trans hf6 (fun j hj he => absurd (HV5.out.block j he).1 (by omega))⟩
  unfold frameOf
  rw [HS.out]
  exact OB.app hv6 (fun _ h => h) (fun k h => Nat.le_trans HF5.out.size h)

end Go.Proofs.Ytgobbgklmjnnlaa
