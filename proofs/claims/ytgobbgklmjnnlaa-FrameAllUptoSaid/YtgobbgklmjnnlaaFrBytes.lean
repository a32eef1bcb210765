/- The laws' small helpers on bytes: copied, lent, same, still. -/
import Derived.Test.YtgobbgklmjnnlaaRows
import Derived.Test.YtgobbgklmjnnlaaBytes
namespace Go.Proofs.Ytgobbgklmjnnlaa
open Go.RowKit Go.Sb

theorem Try.info5 : (Try.prog.info? 5).map (fun i => (i.zero, i.size, i.bytes)) = some (some (.int .u8 0), 1, 1) := by kernel_rfl

/-- What a call leaves that answers new bytes. -/
def NewBytes (w : World) (xs : List UInt8) (e : Ending) (w' : World) : Prop := ∃ v, e = .returned v ∧ OB 5 (fun k => w.heap.size ≤ k) w' v xs ∧ Fr (fun _ => False) w w' ∧ v ≠ .slice none 0 0

theorem empty_src (w : World) : Own 5 1 (fun k => w.heap.size ≤ k) (w.alloc (.cells #[] 5)) (.slice (some ⟨w.heap.size, 0, none⟩) 0 0) 0 [] := Own.empty 5 1 _ w (Nat.le_refl _)

set_option maxRecDepth 100000 in
set_option maxHeartbeats 1000000 in
theorem copied_any (v : Value) (xs : List UInt8) (w : World) (hv : RB w v xs) (hm : xs.length ≤ 140737488360000) :
    Calls Try.prog 17 #[v] w (NewBytes w xs) := by
  have HV := Lib.hid hv
  clear hv
  go_enter Try.func17, Try.ntmps17
  go_wp2_with (at_builtin; refine wpList_append_Own _ rfl _ _ 22 rfl 5 (.int .u8 0) 1 1 Try.underlying22 Try.info5 rfl (by decide) (.slice (some ⟨w.heap.size, 0, none⟩) 0 0) 0 [] rfl (empty_src w) v xs.length (xs.map byte) rfl ((HV.out.fr ((Fr.refl _ _).alloc _)).src) (by unfold maxLen; omega) (by omega) ?_; intro v1 w1 hv1 hf1 hn1 _)
  have hf : Fr (fun _ => False) w w1 := ((Fr.refl _ w).alloc _).trans hf1 (fun i hi he => by simp only [Value.ownBlock, Option.some.injEq] at he; omega)
  have HV1 := Lib.hid hv1
  have HF := Lib.hid hf
  have HN := Lib.hid hn1
  clear hv1 hf1 hn1 hf
  go_wp2_with (fail)
  go_ret
  refine ⟨_, rfl, ?_, HF.out, fun h => by have := HN.out.1 h; simp at this⟩
  have h := HV1.out
  rw [Nat.zero_add, List.nil_append] at h
  exact h.mono (fun k _ hk => hk.elim id (fun h => by simp at h; omega))

theorem still_eight (w : World) : Src w (.slice none 0 0) 0 1 [] := ⟨by simp, by simp, .inl ⟨0, rfl, rfl⟩⟩

/-- one byte just laid -/
theorem src_one (w : World) (c : UInt8) (T : TypeId) : Src (w.alloc (.cells #[byte c] T)) (.slice (some ⟨w.heap.size, 0, none⟩) 1 1) 1 1 ([c].map byte) := by
  refine ⟨by simp, fun u hu => ?_, .inr ⟨_, 1, rfl, fun j u hu => ?_⟩⟩
  · simp only [List.map_cons, List.map_nil, List.mem_singleton] at hu
    subst hu; rfl
  · match j with
    | 0 =>
      simp only [List.map_cons, List.map_nil, List.getElem?_cons_zero, Option.some.injEq] at hu
      subst hu
      have := heap_alloc_eq w (.cells #[byte c] T)
      exact cell_is this 0 rfl
    | j + 1 => simp at hu

/-- The marks behind what was lent: after k of them. -/
def Lent (w0 : World) (xs : List UInt8) (v i : Value) (wr : World) : Prop :=
  ∃ k : Nat, k ≤ 8 ∧ i = .int .i64 (k : Int) ∧ OB 5 (fun x => w0.heap.size ≤ x) wr v (xs ++ List.replicate k 0xA5) ∧ Fr (fun _ => False) w0 wr ∧ v ≠ .slice none 0 0

set_option maxRecDepth 100000 in
set_option maxHeartbeats 1000000 in
theorem lent_any (v : Value) (xs : List UInt8) (w : World) (hv : RB w v xs) (hm : xs.length ≤ 140737488360000) :
    Calls Try.prog 13 #[v] w (NewBytes w (xs ++ List.replicate 8 0xA5)) := by
  have HV := Lib.hid hv
  clear hv
  go_enter Try.func13, Try.ntmps13
  go_wp2_with (fail)
  refine (copied_any v xs w HV.out (by omega)).mono ?_
  rintro e w1 ⟨v1, rfl, hv1, hf1, hn1⟩
  have HV1 := Lib.hid hv1
  have HF1 := Lib.hid hf1
  have HN1 := Lib.hid hn1
  clear hv1 hf1 hn1
  go_wp2_with (fail)
  go_loopw [3, 4] (fun v i wr => ∃ vv, vv = v ∧ Lent w xs vv i wr) (fun _ i _ => 8 - (intOf i).toNat)
  case atStart => exact ⟨_, rfl, 0, by omega, rfl, by simpa using HV1.out, HF1.out, HN1.out⟩
  case round =>
    obtain ⟨vv, rfl, k, hk, rfl, hv, hf, hn⟩ := hrel
    have HV2 := Lib.hid hv
    have HF2 := Lib.hid hf
    have HN2 := Lib.hid hn
    clear hv hf hn
    by_cases hlt : k < 8
    · go_wp2_with (at_builtin; refine wpList_append_Own _ rfl _ _ 22 rfl 5 (.int .u8 0) 1 1 Try.underlying22 Try.info5 rfl (by decide) vv _ _ rfl (HV2.out.alloc _) (.slice (some ⟨wr.heap.size, 0, none⟩) 1 1) 1 ([165].map byte) rfl (src_one wr 165 5) (by unfold maxLen; simp; omega) (by simp; omega) ?_; intro v3 w3 hv3 hf3 hn3 _)
      have hfr : Fr (fun _ => False) w w3 := (HF2.out.alloc _).trans hf3 (fun j hj he => absurd (HV2.out.block j he).1 (by omega))
      have HF3 := Lib.hid hfr
      have HV3 := Lib.hid hv3
      have HN3 := Lib.hid hn3
      clear hv3 hf3 hn3 hfr
      go_roundw
      case rel =>
        refine ⟨_, rfl, k + 1, by omega, rfl, ?_, HF3.out, fun h => by have := (HN3.out.1 h).2; simp at this⟩
        have h := HV3.out
        rw [← List.map_append, List.append_assoc, ← List.replicate_succ'] at h
        have e : (xs ++ List.replicate (k + 1) 165).length = (xs ++ List.replicate k 165).length + 1 := by simp; omega
        unfold OB
        rw [e]
        exact h.mono (fun j _ hj => hj.elim id (fun h => by have := HF2.out.size; simp at h; omega))
      case measure => simp [intOf]; omega
    · have hk8 : k = 8 := by omega
      subst hk8
      go_wp2_with (fail)
      go_ret
      exact ⟨_, rfl, HV2.out, HF2.out, HN2.out⟩

def Quiet (v : Value) (w : World) (e : Ending) (w' : World) : Prop := e = .returned v ∧ ∃ n, w' = w.drewN n

theorem take_snoc {α : Type} (xs : List α) (k : Nat) (h : k < xs.length) : xs.take (k + 1) = xs.take k ++ [xs[k]] := by
  rw [List.take_succ_eq_append_getElem h]

/-- so far they are alike -/
def SameRel (w : World) (xs ys : List UInt8) (i : Value) (wr : World) : Prop := ∃ k n : Nat, i = .int .i64 (k : Int) ∧ k ≤ xs.length ∧ wr = w.drewN n ∧ xs.take k = ys.take k

theorem take_eq_all {xs ys : List UInt8} (h : xs.length = ys.length) (hk : xs.take xs.length = ys.take xs.length) : xs = ys := by
  rw [List.take_length, h, List.take_length] at hk
  exact hk

theorem same_nil (a b : Option Addr) (c d : Nat) (w : World) : Calls Try.prog 20 #[.slice a 0 c, .slice b 0 d] w (Quiet (.bool true) w) := by
  go_enter Try.func20, Try.ntmps20
  go_wp2_with (fail)
  refine wp_loop_rounds 1 ?_
  rw [rounds_succ]
  go_wp2_with (fail)
  go_ret
  exact ⟨rfl, 0, rfl⟩

theorem same_len (a b : Option Addr) (m n c d : Nat) (w : World) (h : m ≠ n) : Calls Try.prog 20 #[.slice a m c, .slice b n d] w (Quiet (.bool false) w) := by
  have h1 : ((m : Int) != (n : Int)) = true := by simp; omega
  go_enter Try.func20, Try.ntmps20
  go_wp2_with (fail)
  go_ret
  exact ⟨rfl, 0, rfl⟩

set_option maxRecDepth 100000 in
set_option maxHeartbeats 1000000 in
theorem same_some (ba oa bb ob c d : Nat) (xs ys : List UInt8) (w : World) (hl : ys.length = xs.length) (hm : xs.length ≤ 9223372036854775807)
    (ha : ∀ i (h : i < xs.length), w.cell? ⟨ba, oa + i, none⟩ = some (byte xs[i])) (hb : ∀ i (h : i < ys.length), w.cell? ⟨bb, ob + i, none⟩ = some (byte ys[i])) :
    Calls Try.prog 20 #[.slice (some ⟨ba, oa, none⟩) xs.length c, .slice (some ⟨bb, ob, none⟩) xs.length d] w (Quiet (.bool (decide (xs = ys))) w) := by
  have HA := Lib.hid ha
  have HB := Lib.hid hb
  have HL := Lib.hid hl
  clear ha hb hl
  go_enter Try.func20, Try.ntmps20
  go_wp2_with (fail)
  go_loopw [5] (fun i wr => SameRel w xs ys i wr) (fun i _ => xs.length - (intOf i).toNat)
  case atStart => exact ⟨0, 0, rfl, by omega, rfl, rfl⟩
  case round =>
    obtain ⟨k, n, rfl, hk, rfl, ht⟩ := hrel
    have HT := Lib.hid ht
    clear ht
    by_cases hlt : k < xs.length
    · have h1 := HA.out k hlt
      have hlt2 : k < ys.length := by have := HL.out; omega
      have h2 := HB.out k hlt2
      have hx := take_snoc xs k hlt
      have hy := take_snoc ys k hlt2
      by_cases he : xs[k] = ys[k]
      · have HN := Lib.hid (show xs.take (k + 1) = ys.take (k + 1) by rw [hx, hy, HT.out, he])
        rw [← he] at h2
        clear hx hy he
        generalize xs[k] = x at *
        unfold byte at h1 h2
        have hne : ((x.toNat : Int) != (x.toNat : Int)) = false := by simp
        go_wp2_with (fail)
        go_quiet (fail)
        go_wp2_with (fail)
        go_roundw
        case rel => exact ⟨k + 1, _, rfl, hlt, rfl, HN.out⟩
        case measure => simp [intOf]; omega
      · have HN : Hid (decide (xs = ys) = false) := by
          simp only [decide_eq_false_iff_not]
          rintro rfl
          exact he rfl
        clear hx hy
        have hne2 : xs[k].toNat ≠ ys[k].toNat := fun h => he (UInt8.toNat_inj.1 h)
        clear he
        generalize xs[k] = x at *
        generalize ys[k] = y at *
        unfold byte at h1 h2
        have hne : ((x.toNat : Int) != (y.toNat : Int)) = true := by simp; omega
        go_wp2_with (fail)
        go_quiet (fail)
        go_wp2_with (fail)
        go_ret
        exact ⟨by rw [HN.out]; rfl, _, by first | rfl | exact World.drewN_drewN _ _ _⟩
    · have hkn : k = xs.length := by omega
      subst hkn
      have HN : Hid (decide (xs = ys) = true) := by
        simp only [decide_eq_true_eq]
        exact take_eq_all HL.out.symm HT.out
      go_wp2_with (fail)
      go_ret
      exact ⟨by rw [HN.out]; rfl, _, by first | rfl | exact World.drewN_drewN _ _ _⟩

theorem same_any (va vb : Value) (xs ys : List UInt8) (w : World) (ha : RB w va xs) (hb : RB w vb ys) : Calls Try.prog 20 #[va, vb] w (Quiet (.bool (decide (xs = ys))) w) := by
  have hlm := ha.len
  by_cases hl : ys.length = xs.length
  · rcases ha.open' with ⟨a, c, rfl, rfl⟩ | ⟨b, o, c, rfl, _, _, _, hc⟩
    · have : ys = [] := List.eq_nil_of_length_eq_zero hl
      subst this
      obtain ⟨a', c', rfl, _⟩ := hb
      exact same_nil a a' c c' w
    · rcases hb.open' with ⟨a', c', rfl, rfl⟩ | ⟨b', o', c', rfl, _, _, _, hc'⟩
      · have : xs = [] := List.eq_nil_of_length_eq_zero hl.symm
        subst this
        exact same_nil _ _ c c' w
      · rw [hl]
        exact same_some b o b' o' c c' xs ys w hl hlm hc hc'
  · have hne : decide (xs = ys) = false := by
      simp only [decide_eq_false_iff_not]
      rintro rfl
      exact hl rfl
    obtain ⟨a, c, rfl, _⟩ := ha
    obtain ⟨a', c', rfl, _⟩ := hb
    rw [hne]
    exact same_len a a' _ _ c c' w (fun h => hl h.symm)

theorem same_nilR (a b : Option Addr) (c d : Nat) (w : World) : Calls Try.prog 44 #[.slice a 0 c, .slice b 0 d] w (Quiet (.bool true) w) := by
  go_enter Try.func44, Try.ntmps44
  go_wp2_with (fail)
  refine wp_loop_rounds 1 ?_
  rw [rounds_succ]
  go_wp2_with (fail)
  go_ret
  exact ⟨rfl, 0, rfl⟩

theorem same_lenR (a b : Option Addr) (m n c d : Nat) (w : World) (h : m ≠ n) : Calls Try.prog 44 #[.slice a m c, .slice b n d] w (Quiet (.bool false) w) := by
  have h1 : ((m : Int) != (n : Int)) = true := by simp; omega
  go_enter Try.func44, Try.ntmps44
  go_wp2_with (fail)
  go_ret
  exact ⟨rfl, 0, rfl⟩

set_option maxRecDepth 100000 in
set_option maxHeartbeats 1000000 in
theorem same_someR (ba oa bb ob c d : Nat) (xs ys : List UInt8) (w : World) (hl : ys.length = xs.length) (hm : xs.length ≤ 9223372036854775807)
    (ha : ∀ i (h : i < xs.length), w.cell? ⟨ba, oa + i, none⟩ = some (byte xs[i])) (hb : ∀ i (h : i < ys.length), w.cell? ⟨bb, ob + i, none⟩ = some (byte ys[i])) :
    Calls Try.prog 44 #[.slice (some ⟨ba, oa, none⟩) xs.length c, .slice (some ⟨bb, ob, none⟩) xs.length d] w (Quiet (.bool (decide (xs = ys))) w) := by
  have HA := Lib.hid ha
  have HB := Lib.hid hb
  have HL := Lib.hid hl
  clear ha hb hl
  go_enter Try.func44, Try.ntmps44
  go_wp2_with (fail)
  go_loopw [5] (fun i wr => SameRel w xs ys i wr) (fun i _ => xs.length - (intOf i).toNat)
  case atStart => exact ⟨0, 0, rfl, by omega, rfl, rfl⟩
  case round =>
    obtain ⟨k, n, rfl, hk, rfl, ht⟩ := hrel
    have HT := Lib.hid ht
    clear ht
    by_cases hlt : k < xs.length
    · have h1 := HA.out k hlt
      have hlt2 : k < ys.length := by have := HL.out; omega
      have h2 := HB.out k hlt2
      have hx := take_snoc xs k hlt
      have hy := take_snoc ys k hlt2
      by_cases he : xs[k] = ys[k]
      · have HN := Lib.hid (show xs.take (k + 1) = ys.take (k + 1) by rw [hx, hy, HT.out, he])
        rw [← he] at h2
        clear hx hy he
        generalize xs[k] = x at *
        unfold byte at h1 h2
        have hne : ((x.toNat : Int) != (x.toNat : Int)) = false := by simp
        go_wp2_with (fail)
        go_quiet (fail)
        go_wp2_with (fail)
        go_roundw
        case rel => exact ⟨k + 1, _, rfl, hlt, rfl, HN.out⟩
        case measure => simp [intOf]; omega
      · have HN : Hid (decide (xs = ys) = false) := by
          simp only [decide_eq_false_iff_not]
          rintro rfl
          exact he rfl
        clear hx hy
        have hne2 : xs[k].toNat ≠ ys[k].toNat := fun h => he (UInt8.toNat_inj.1 h)
        clear he
        generalize xs[k] = x at *
        generalize ys[k] = y at *
        unfold byte at h1 h2
        have hne : ((x.toNat : Int) != (y.toNat : Int)) = true := by simp; omega
        go_wp2_with (fail)
        go_quiet (fail)
        go_wp2_with (fail)
        go_ret
        exact ⟨by rw [HN.out]; rfl, _, by first | rfl | exact World.drewN_drewN _ _ _⟩
    · have hkn : k = xs.length := by omega
      subst hkn
      have HN : Hid (decide (xs = ys) = true) := by
        simp only [decide_eq_true_eq]
        exact take_eq_all HL.out.symm HT.out
      go_wp2_with (fail)
      go_ret
      exact ⟨by rw [HN.out]; rfl, _, by first | rfl | exact World.drewN_drewN _ _ _⟩

theorem same_anyR (va vb : Value) (xs ys : List UInt8) (w : World) (ha : RB w va xs) (hb : RB w vb ys) : Calls Try.prog 44 #[va, vb] w (Quiet (.bool (decide (xs = ys))) w) := by
  have hlm := ha.len
  by_cases hl : ys.length = xs.length
  · rcases ha.open' with ⟨a, c, rfl, rfl⟩ | ⟨b, o, c, rfl, _, _, _, hc⟩
    · have : ys = [] := List.eq_nil_of_length_eq_zero hl
      subst this
      obtain ⟨a', c', rfl, _⟩ := hb
      exact same_nilR a a' c c' w
    · rcases hb.open' with ⟨a', c', rfl, rfl⟩ | ⟨b', o', c', rfl, _, _, _, hc'⟩
      · have : xs = [] := List.eq_nil_of_length_eq_zero hl.symm
        subst this
        exact same_nilR _ _ c c' w
      · rw [hl]
        exact same_someR b o b' o' c c' xs ys w hl hlm hc hc'
  · have hne : decide (xs = ys) = false := by
      simp only [decide_eq_false_iff_not]
      rintro rfl
      exact hl rfl
    obtain ⟨a, c, rfl, _⟩ := ha
    obtain ⟨a', c', rfl, _⟩ := hb
    rw [hne]
    exact same_lenR a a' _ _ c c' w (fun h => hl h.symm)

/-- A part of what a slice reads as. -/
theorem RB.cut {w : World} {b o n c : Nat} {xs : List UInt8} (hn : n ≤ xs.length) (hc : xs.length ≤ c) (hm : c ≤ maxLen) (h : ∀ i (h : i < xs.length), w.cell? ⟨b, o + i, none⟩ = some (byte xs[i])) : RB w (.slice (some ⟨b, o, none⟩) n c) (xs.take n) := by
  have hl : (xs.take n).length = n := by simp; omega
  refine ⟨some ⟨b, o, none⟩, c, by rw [hl], by omega, hm, .inr ⟨b, o, none, rfl, fun _ => rfl, fun i hi => ?_⟩⟩
  rw [List.getElem_take]
  exact h i (by omega)

def StillRel (w : World) (n : Nat) (i : Value) (wr : World) : Prop := ∃ k m : Nat, i = .int .i64 ((n + k : Nat) : Int) ∧ k ≤ 8 ∧ wr = w.drewN m

set_option maxRecDepth 100000 in
set_option maxHeartbeats 1000000 in
theorem still_any (va vw : Value) (xs : List UInt8) (w : World) (ha : RB w va (xs ++ List.replicate 8 0xA5)) (hw : RB w vw xs) : Calls Try.prog 16 #[va, vw] w (Quiet (.bool true) w) := by
  have hlm := ha.len
  unfold maxLen at hlm
  have hl8 : (xs ++ List.replicate 8 (0xA5 : UInt8)).length = xs.length + 8 := by simp
  rcases ha.open' with ⟨_, _, _, h⟩ | ⟨b, o, c, rfl, h1, h2, _, hc⟩
  · simp at h
  · rw [hl8] at h1 hlm ⊢
    have hcut := RB.cut (n := xs.length) (by simp) (by rw [hl8]; exact h1) h2 hc
    rw [List.take_left] at hcut
    have hmark : ∀ i, i < 8 → w.cell? ⟨b, o + (xs.length + i), none⟩ = some (.int .u8 165) := fun i hi => by
      rw [hc (xs.length + i) (by rw [hl8]; omega)]
      rw [List.getElem_append_right (by omega), List.getElem_replicate]
      rfl
    have HS := Lib.hid (same_any _ _ xs xs w hcut hw)
    have HM := Lib.hid hmark
    obtain ⟨aw, cw, rfl, _⟩ := hw
    unfold maxLen at h2
    clear ha hcut hmark hc hl8
    go_enter Try.func16, Try.ntmps16
    go_wp2_with (fail)
    refine HS.out.mono ?_
    rintro e w1 ⟨he, m, rfl⟩
    simp only [decide_true] at he
    subst he
    go_wp2_with (fail)
    go_loopw [6] (fun i wr => StillRel w xs.length i wr) (fun i _ => xs.length + 8 - (intOf i).toNat)
    case atStart => exact ⟨0, m, rfl, by omega, rfl⟩
    case round =>
      obtain ⟨k, m, rfl, hk, rfl⟩ := hrel
      by_cases hlt : k < 8
      · have h := HM.out k hlt
        go_wp2_with (fail)
        go_roundw
        case rel => exact ⟨k + 1, m, by first | rfl | (congr 1), by omega, rfl⟩
        case measure => simp [intOf]; omega
      · have hk8 : k = 8 := by omega
        subst hk8
        go_wp2_with (fail)
        go_ret
        exact ⟨rfl, m, rfl⟩

end Go.Proofs.Ytgobbgklmjnnlaa
