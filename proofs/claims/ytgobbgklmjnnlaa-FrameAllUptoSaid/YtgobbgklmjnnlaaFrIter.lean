/- The frames with which some bytes begin: frame.All, its iterator, what a range over it may count on. -/
import Derived.Test.YtgobbgklmjnnlaaFrPlain
import Derived.Test.YtgobbgklmjnnlaaRangeFresh
import Derived.Deep.RegionHeld3
import Derived.Shelf.Abstract
import Derived.WalkKit
import Derived.OwnWalkIn
import Derived.TacticsInMore
import Derived.LoopNIn
import Derived.LoopIn
namespace Go.Proofs.Ytgobbgklmjnnlaa
open Go.RowKit Go.Sb
attribute [local go_sem] Oper.semAt_some

set_option maxRecDepth 100000 in
set_option maxHeartbeats 1000000 in
theorem bclone_some (ad : Addr) (n c : Nat) (xs : List UInt8) (w : World) (hv : RB w (.slice (some ad) n c) xs) (hm : xs.length ≤ 150000000000000) :
    Calls Try.prog 42 #[.slice (some ad) n c] w (NewBytes w xs) := by
  have HV := Lib.hid hv
  clear hv
  have hnil := fun (w : World) => Lib.run_eql_slice_nil (P := Try.prog) w 22 5 (some ad) n c 0 0 Try.underlying22
  simp only [Option.isNone_some] at hnil
  go_enter Try.func42, Try.ntmps42
  go_wp2_with (at_builtin; refine wpList_append_Own _ rfl _ _ 22 rfl 5 (.int .u8 0) 1 1 Try.underlying22 Try.info5 rfl (by decide) (.slice (some ⟨w.heap.size, 0, none⟩) 0 0) 0 [] rfl (empty_src w) (.slice (some ad) n c) xs.length (xs.map byte) rfl ((HV.out.fr ((Fr.refl _ _).alloc _)).src) (by unfold maxLen; omega) (by omega) ?_; intro v1 w1 hv1 hf1 hn1 _)
  have hf : Fr (fun _ => False) w w1 := ((Fr.refl _ w).alloc _).trans hf1 (fun i hi he => by simp only [Value.ownBlock, Option.some.injEq] at he; omega)
  have HV1 := Lib.hid hv1
  have HF := Lib.hid hf
  have HN := Lib.hid hn1
  clear hv1 hf1 hn1 hf hnil
  go_wp2_with (fail)
  go_ret
  refine ⟨_, rfl, ?_, HF.out, fun h => by have := HN.out.1 h; simp at this⟩
  have h := HV1.out
  rw [Nat.zero_add, List.nil_append] at h
  exact h.mono (fun k _ hk => hk.elim id (fun h => by simp at h; omega))

/-- bytes.Clone: the same bytes in new memory; of nil nil -/
theorem bclone_any (v : Value) (xs : List UInt8) (w : World) (hv : RB w v xs) (hm : xs.length ≤ 150000000000000) :
    Calls Try.prog 42 #[v] w fun e w' => ∃ v', e = .returned v' ∧ OB 5 (fun k => w.heap.size ≤ k) w' v' xs ∧ Fr (fun _ => False) w w' := by
  obtain ⟨a, c, rfl, hc, hcm, hs⟩ := hv
  cases a with
  | none =>
    have hc0 : c = 0 := by
      rcases hs with ⟨_, h⟩ | ⟨b, o, s, h, _⟩
      · exact h
      · cases h
    subst hc0
    have hx : xs = [] := List.eq_nil_of_length_eq_zero (by omega)
    subst hx
    have hnil := fun (w : World) => Lib.run_eql_slice_nil (P := Try.prog) w 22 5 none 0 0 0 0 Try.underlying22
    simp only [Option.isNone_none] at hnil
    clear hs hc hcm
    go_enter Try.func42, Try.ntmps42
    go_wp2_with (fail)
    go_ret
    exact ⟨_, rfl, OB.nil _ _, Fr.refl _ _⟩
  | some ad =>
    refine (bclone_some ad _ c xs w ⟨_, c, rfl, hc, hcm, hs⟩ hm).mono ?_
    rintro e w' ⟨v', he, ho, hf, _⟩
    exact ⟨v', he, ho, hf⟩

/-- The frames with which some bytes begin that stand at a place of a file. -/
def fsAt (file : Int) : Nat → Nat → List UInt8 → List (Int × List UInt8)
  | 0, _, _ => []
  | k + 1, p, bs => if errOf file (p : Int) bs = 0 then ((p : Int), payOf bs) :: fsAt file k (p + (8 + lenOf bs)) (bs.drop (8 + lenOf bs)) else []

def frames (file : Int) (p : Nat) (bs : List UInt8) : List (Int × List UInt8) := fsAt file bs.length p bs

theorem errOf_len {file place : Int} {bs : List UInt8} (h : errOf file place bs = 0) : 8 + lenOf bs ≤ bs.length ∧ 0 < lenOf bs ∧ lenOf bs ≤ 66000 ∧ Placed file ∧ Placed place := by
  unfold errOf at h
  split at h
  · cases h
  · rename_i hp
    split at h
    · cases h
    · split at h
      · cases h
      · split at h
        · cases h
        · split at h
          · cases h
          · have hpp := Decidable.not_not.1 hp
            exact ⟨by omega, by omega, by omega, hpp.1, hpp.2⟩

theorem errOf_nil (file place : Int) : errOf file place [] ≠ 0 := fun h => by
  have := (errOf_len h).1
  simp at this

theorem fsAt_more (file : Int) : ∀ (k m p : Nat) (bs : List UInt8), bs.length ≤ k → bs.length ≤ m → fsAt file k p bs = fsAt file m p bs
  | 0, m, p, bs, hk, hm => by
    have hx : bs = [] := List.eq_nil_of_length_eq_zero (by omega)
    subst hx
    cases m with
    | zero => rfl
    | succ m =>
      unfold fsAt
      rw [if_neg (errOf_nil _ _)]
  | k + 1, 0, p, bs, hk, hm => by
    have hx : bs = [] := List.eq_nil_of_length_eq_zero (by omega)
    subst hx
    unfold fsAt
    rw [if_neg (errOf_nil _ _)]
  | k + 1, m + 1, p, bs, hk, hm => by
    unfold fsAt
    by_cases h : errOf file (p : Int) bs = 0
    · rw [if_pos h, if_pos h, fsAt_more file k m _ _ (by simp; omega) (by simp; omega)]
    · rw [if_neg h, if_neg h]

theorem frames_ok {file : Int} {p : Nat} {bs : List UInt8} (h : errOf file (p : Int) bs = 0) : frames file p bs = ((p : Int), payOf bs) :: frames file (p + (8 + lenOf bs)) (bs.drop (8 + lenOf bs)) := by
  have hl := (errOf_len h).1
  unfold frames
  obtain ⟨k, hk⟩ : ∃ k, bs.length = k + 1 := ⟨bs.length - 1, by omega⟩
  rw [hk]
  show (if errOf file (p : Int) bs = 0 then _ else _) = _
  rw [if_pos h, fsAt_more file k _ _ _ (by simp; omega) (Nat.le_refl _)]

theorem frames_err {file : Int} {p : Nat} {bs : List UInt8} (h : errOf file (p : Int) bs ≠ 0) : frames file p bs = [] := by
  unfold frames
  cases bs.length with
  | zero => rfl
  | succ k =>
    show (if errOf file (p : Int) bs = 0 then _ else _) = _
    rw [if_neg h]

/-- What an iterator gives: a place, and a payload that reads so, at this value. -/
structure Fd where
  p : Int
  xs : List UInt8
  v : Value

def Fd.key (x : Fd) : Int × List UInt8 := (x.p, x.xs)

/-- The next frame, its payload in new memory. -/
def FdNext (L : List (Int × List UInt8)) (pre : List Fd) (x : Fd) (W1 W2 : World) : Prop :=
  (pre ++ [x]).map Fd.key <+: L ∧ OB 5 (fun k => W1.heap.size ≤ k) W2 x.v x.xs ∧ Fr (fun _ => False) W1 W2

theorem FdNext.fr {L : List (Int × List UInt8)} (pre : List Fd) (x : Fd) (W1 W2 : World) (h : FdNext L pre x W1 W2) : Fr (fun _ => False) W1 W2 := h.2.2
theorem FdNext.put {L : List (Int × List UInt8)} (pre : List Fd) (x : Fd) (W1 W2 : World) (r : Nat) (o : Obj) (h : FdNext L pre x W1 W2) (hr : r < W1.heap.size) : FdNext L pre x (W1.putObj r o) (W2.putObj r o) := by
  obtain ⟨h1, h2, h3⟩ := h
  refine ⟨h1, ?_, ?_⟩
  · have h4 : OB 5 (fun k => W1.heap.size ≤ k) (W2.putObj r o) x.v x.xs := Own.of h2 (fun k _ hk => heap_putObj_ne _ _ _ _ (fun e => by have : W1.heap.size ≤ k := (Own.block h2 k hk).1; omega))
    simpa using h4
  · refine ⟨h3.os, h3.tape, h3.output, by simpa using h3.size, fun k hk _ => ?_⟩
    by_cases hkr : k = r
    · subst hkr
      rw [heap_putObj_eq _ _ _ hr, heap_putObj_eq _ _ _ (Nat.lt_of_lt_of_le hr h3.size)]
    · rw [heap_putObj_ne _ _ _ _ hkr, heap_putObj_ne _ _ _ _ hkr]
      exact h3.block k (by simpa using hk) id

/-- frame.All keeps the bytes as they are. -/
theorem all_fr (file : Int) (ad : Addr) (n c : Nat) (bs : List UInt8) (w : World) (hv : RB w (.slice (some ad) n c) bs) (hm : bs.length ≤ 150000000000000) :
    Calls Try.prog 32 #[.int .i64 file, .slice (some ad) n c] w fun e w' => ∃ bf bo g c', e = .returned (.func (.func 46) #[] #[.pointer (some ⟨bf, 0, none⟩), .pointer (some ⟨bo, 0, none⟩)]) ∧
      w'.heap[bf]? = some (.cells #[.int .i64 file] 3 (0, 0)) ∧ w'.heap[bo]? = some (.cells #[.slice (some ⟨g, 0, none⟩) bs.length c'] 22 (0, 0)) ∧ OB 5 (fun k => w.heap.size ≤ k) w' (.slice (some ⟨g, 0, none⟩) bs.length c') bs ∧ Fr (fun _ => False) w w' ∧
      w.heap.size ≤ bf ∧ w.heap.size ≤ bo := by
  have HV := Lib.hid hv
  go_enter Try.func32, Try.ntmps32
  go_wp2_with (fail)
  refine (bclone_some ad n c bs _ (HV.out.fr ((Fr.refl _ _).alloc _)) hm).mono ?_
  rintro e w1 ⟨vo, rfl, ho, hf, hnn⟩
  have HO := Lib.hid ho
  have HF := Lib.hid hf
  obtain ⟨g, c', rfl⟩ : ∃ g c', vo = .slice (some ⟨g, 0, none⟩) bs.length c' := by
    rcases ho.2 with ⟨h, _⟩ | ⟨g, cap, cur, h, _⟩
    · exact absurd h hnn
    · exact ⟨g, cap, h⟩
  clear ho hf hnn
  go_wp2_with (fail)
  go_ret
  have f2 : Fr (fun _ => False) w1 (w1.alloc (.cells #[.slice (some ⟨g, 0, none⟩) bs.length c'] 22)) := (Fr.refl _ _).alloc _
  have hs := HF.out.size
  simp at hs
  refine ⟨w.heap.size, w1.heap.size, g, c', rfl, f2.get (HF.out.get (heap_alloc_eq _ _) id) id, heap_alloc_eq _ _, ?_, (((Fr.refl _ w).alloc _).trans HF.out (fun _ _ h => h)).trans f2 (fun _ _ h => h), Nat.le_refl _, by omega⟩
  exact Own.mono (Own.fr HO.out f2 (fun _ _ _ h => h)) (fun k _ h => by simp at h; omega)

end Go.Proofs.Ytgobbgklmjnnlaa
