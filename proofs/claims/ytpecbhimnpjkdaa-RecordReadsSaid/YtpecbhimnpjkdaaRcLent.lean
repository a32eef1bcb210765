/- lent and still, walked. -/
import Derived.Test.YtpecbhimnpjkdaaRcShown
import Derived.Laws.CopyRow
namespace Go.Proofs.Ytpecbhimnpjkdaa
open Go.RowKit Go.Sb

section
variable {w : World} {ops : Array Oper} {rest : List Oper} {o : Oper} {a : Act} {Q : Exit → Act → World → Prop}
/-- bytes copied to the head of a row of one's own -/
theorem wpList_copy_rb (hg : o.guard = none) (so xo : Operand) (hop : o.op = .call { callee := .builtin .copy, args := #[so, xo], argTypes := #[22, 22] }) (g n : Nat) (cur : List Value) (v : Value) (xs : List UInt8) (hs : a.eval so = .slice (some ⟨g, 0, none⟩) n n) (hx : a.eval xo = v)
    (hgr : w.heap[g]? = some (.cells cur.toArray 5 (0, 0))) (hcl : cur.length = n) (hv : RB w v xs) (hn : xs.length ≤ n)
    (hK : ∀ w', w'.heap[g]? = some (.cells (xs.map byte ++ cur.drop xs.length).toArray 5 (0, 0)) → Fr (fun x => x = g) w w' → wpList Try.prog ops Q rest (a.put o.dst (.int .i64 (xs.length : Int))) w') : wpList Try.prog ops Q (o :: rest) a w := by
  refine wpList_plain hg fun K' hK' => ?_
  have hi5 : (Try.prog.info? 5).map (·.size) = some 1 := by kernel_rfl
  have hone : ∀ u ∈ xs.map byte, u.oneCell' = true := fun u hu => by
    obtain ⟨c, _, rfl⟩ := List.mem_map.1 hu
    rfl
  obtain ⟨ad, c, rfl, h1, h2, h3⟩ := hv
  have hrun : (Builtin.copy_ #[22, 22] o.type #[.slice (some ⟨g, 0, none⟩) n n, .slice ad xs.length c]).run Try.prog w = .ok (.int .i64 (xs.length : Int)) (w.setRow g (xs.map byte ++ cur.drop xs.length).toArray) := by
    have key : ∀ a0 : Addr, (∀ j u, (xs.map byte)[j]? = some u → w.cell? (a0.add j) = some u) → (Builtin.copy_ #[22, 22] o.type #[.slice (some ⟨g, 0, none⟩) n n, .slice (some a0) xs.length c]).run Try.prog w = .ok (.int .i64 (xs.length : Int)) (w.setRow g (xs.map byte ++ cur.drop xs.length).toArray) := fun a0 ha0 => by
      have h := run_copy_row (P := Try.prog) w 22 22 o.type 5 g 0 n n a0 xs.length c cur.toArray 5 (xs.map byte) Try.underlying22 hi5 hgr (by rw [List.length_map]; exact (Nat.min_eq_left hn).symm) ha0 (by simp; omega) hone
      rw [h]
      simp [goInt]
    rcases h3 with ⟨rfl, rfl⟩ | ⟨b, ofs, s, rfl, hss, h4⟩
    · have hx0 : xs = [] := List.eq_nil_of_length_eq_zero (by omega)
      subst hx0
      have h := run_copy_nil (P := Try.prog) w 22 22 o.type 5 ⟨g, 0, none⟩ n n Try.underlying22 (by rw [hi5]; rfl)
      rw [List.length_nil, h]
      simp only [List.map_nil, List.nil_append, List.drop_zero]
      rw [setRow_self w g _ 5 (0, 0) hgr]
      rfl
    · refine key _ (fun j u hu => ?_)
      rw [List.getElem?_map] at hu
      obtain ⟨x, hx2, rfl⟩ := Option.map_eq_some_iff.1 hu
      obtain ⟨hj, rfl⟩ := List.getElem?_eq_some_iff.1 hx2
      obtain rfl := hss (fun h => by subst h; simp at hj)
      rw [Addr.add_mid]
      exact h4 j hj
  unfold Oper.wp
  simp [execOp, hop, resolve, invoke, builtin, hs, hx, hrun, Result.andThen]
  exact hK' _ _ (hK _ (setRow_heap w g _ _ 5 (0, 0) hgr) (Fr.setRow (F := fun x => x = g) (Fr.refl _ _) (.inl rfl) _))
end

theorem rb_row {w : World} {g : Nat} {xs : List UInt8} (h : w.heap[g]? = some (.cells (xs.map byte).toArray 5 (0, 0))) (hm : xs.length ≤ maxLen) : RB w (.slice (some ⟨g, 0, none⟩) xs.length xs.length) xs := by
  refine ⟨_, _, rfl, Nat.le_refl _, hm, .inr ⟨g, 0, none, rfl, fun _ => rfl, fun i hi => ?_⟩⟩
  rw [Nat.zero_add]
  exact cell_is h i (by simp [hi])

theorem made_row {w : World} {base g n : Nat} (h : w.ownsRow base 5 1 (.slice (some ⟨g, 0, none⟩) n n) n (madeCells (Value.int .u8 0).cells (n * 1)).toList) : w.heap[g]? = some (.cells (List.replicate n (Value.int .u8 0)).toArray 5 (0, 0)) := by
  obtain ⟨h1, h2⟩ := h
  rcases h2 with ⟨h2, _⟩ | ⟨g', cap, cur, hv, hf, hg, h3, h4, h5, h6⟩
  · cases h2
  · injection hv with e1 e2 e3
    injection e1 with e1
    injection e1 with e1
    subst e1
    subst e3
    rw [hg]
    congr 2
    apply Array.ext'
    have hz : (madeCells (Value.int .u8 0).cells (n * 1)).toList = List.replicate n (Value.int .u8 0) := by rw [Nat.mul_one]; exact toList_madeCells_one _ _
    rw [hz] at h6
    rw [List.take_of_length_le (by simp; omega)] at h6
    rw [h6]

def mark4 (xs : List UInt8) (j : Nat) : List UInt8 := xs ++ (List.replicate j 0xA5 ++ List.replicate (4 - j) 0)
/-- lent: the bytes, four marks behind them, in a block of their own -/
def LentPost (w : World) (xs : List UInt8) (e : Ending) (w' : World) : Prop :=
  ∃ g, w.heap.size ≤ g ∧ e = .returned (.slice (some ⟨g, 0, none⟩) (xs.length + 4) (xs.length + 4)) ∧ w'.heap[g]? = some (.cells ((mark4 xs 4).map byte).toArray 5 (0, 0)) ∧ Fr (fun _ => False) w w'

def LentRel (xs : List UInt8) (g : Nat) (w3 : World) (i : Value) (wr : World) : Prop :=
  ∃ j : Nat, j ≤ 4 ∧ i = .int .i64 ((xs.length + j : Nat) : Int) ∧ wr.heap[g]? = some (.cells ((mark4 xs j).map byte).toArray 5 (0, 0)) ∧ Fr (fun x => x = g) w3 wr

theorem mark4_step (xs : List UInt8) (j : Nat) (hj : j < 4) : (mark4 xs j).set (xs.length + j) 0xA5 = mark4 xs (j + 1) := by
  unfold mark4
  rw [List.set_append_right _ _ (by omega), Nat.add_sub_cancel_left]
  congr 1
  match j, hj with
  | 0, _ => rfl
  | 1, _ => rfl
  | 2, _ => rfl
  | 3, _ => rfl

theorem mark4_length (xs : List UInt8) (j : Nat) (hj : j ≤ 4) : (mark4 xs j).length = xs.length + 4 := by
  unfold mark4
  simp
  omega

set_option maxRecDepth 100000 in
set_option maxHeartbeats 2000000 in
theorem lent_any (v : Value) (xs : List UInt8) (w : World) (hv : RB w v xs) (hm : xs.length ≤ 140737488360000) : Calls Try.prog 17 #[v] w (LentPost w xs) := by
  have hv0 := hv
  obtain ⟨a, c, rfl, -⟩ := hv0
  have HV := Lib.hid hv
  obtain ⟨i5, hi5, hz5, hs5, hb5⟩ := info_parts info5
  clear hv
  generalize hn : xs.length = n at *
  have HN := Lib.hid hn
  clear hn
  go_enter Try.func17, Try.ntmps17
  go_wp2_with (first
    | (refine wpList_make_full _ rfl _ _ 22 rfl 0 5 i5 (.int .u8 0) 1 Try.underlying22 hi5 hz5 hs5 .i64 .i64 _ _ (n + 4) rfl rfl (by omega) (by omega) (by rw [hb5]; omega) (by unfold maxLen; omega) (Nat.zero_le _) ?_; intro w2 hr2 hg2; have HZ2 := Lib.hid (made_row hr2); have HF2 : Hid (Fr (fun _ => False) w w2) := Lib.hid ((Fr.refl _ w).grown hg2 (fun k hk => by cases hk)); clear hr2 hg2)
    | (refine wpList_copy_rb rfl _ _ rfl w.heap.size (n + 4) (List.replicate (n + 4) (.int .u8 0)) _ xs rfl rfl HZ2.out (by simp) (HV.out.fr HF2.out) (by have := HN.out; omega) ?_; intro w3 hw3 hf3; rw [HN.out] at hw3 ⊢; have HW3 := Lib.hid hw3; have HF3 := Lib.hid (HF2.out.trans hf3 (fun x hx h => by omega)); have hlt3 : w.heap.size < w3.heap.size := lt_of_heap hw3; clear hw3 hf3))
  have HW4 : Hid (w3.heap[w.heap.size]? = some (.cells ((mark4 xs 0).map byte).toArray 5 (0, 0))) := Lib.hid (by
    rw [HW3.out]
    congr 3
    unfold mark4
    rw [List.drop_replicate, List.map_append]
    congr 1
    simp [List.replicate]
    rfl)
  generalize hq : w.heap.size = g at *
  have HQ := Lib.hid hq
  clear hq
  go_loopw [4] (fun i wr => LentRel xs g w3 i wr) (fun i _ => n + 4 - (intOf i).toNat)
  case atStart => exact ⟨0, by omega, by rw [HN.out]; rfl, HW4.out, Fr.refl _ _⟩
  case round =>
    obtain ⟨j, hj, rfl, hx, hf⟩ := hrel
    have HX := Lib.hid hx
    have HF := Lib.hid hf
    clear hx hf
    by_cases hlt : j < 4
    · have hml := mark4_length xs j hj
      rw [HN.out] at hml
      have hcell : wr.cell? ⟨g, n + j, none⟩ = some ((((mark4 xs j).map byte)[n + j]?).getD undef) := cell_is HX.out (n + j) (by
        have : n + j < (mark4 xs j).length := by omega
        simp [this])
      have hfz : wr.frozen? ⟨g, n + j, none⟩ = false := frozen_of HX.out _
      have HE : Hid ((wr.setCell ⟨g, n + j, none⟩ (.int .u8 165)).heap[g]? = some (.cells ((mark4 xs (j + 1)).map byte).toArray 5 (0, 0))) := Lib.hid (by
        rw [heap_setCell_eq (n + j) (.int .u8 165) HX.out, ← mark4_step xs j hlt, HN.out, List.map_set]
        simp [byte])
      have HF5 : Hid (Fr (fun x => x = g) w3 (wr.setCell ⟨g, n + j, none⟩ (.int .u8 165))) := Lib.hid (HF.out.setCell (.inl rfl) _)
      rw [HN.out]
      generalize (((mark4 xs j).map byte)[n + j]?).getD undef = uu at *
      go_wp2_with (fail)
      go_roundw
      case rel => exact ⟨j + 1, by omega, by rw [HN.out]; simp; omega, HE.out, HF5.out⟩
      case measure => simp [intOf]; omega
    · obtain rfl : j = 4 := by omega
      rw [HN.out]
      go_wp2_with (fail)
      go_ret
      exact ⟨g, by have := HQ.out; omega, by rw [HN.out]; rfl, HX.out, HF3.out.trans HF.out (fun x hx h => by have := HQ.out; omega)⟩

def StillRel (w : World) (n : Nat) (i : Value) (wr : World) : Prop := ∃ k m : Nat, i = .int .i64 (k : Int) ∧ k ≤ n + 4 ∧ wr = w.drewN m

set_option maxRecDepth 100000 in
set_option maxHeartbeats 2000000 in
theorem still_any (g : Nat) (vb : Value) (xs : List UInt8) (w : World) (hg : w.heap[g]? = some (.cells ((mark4 xs 4).map byte).toArray 5 (0, 0))) (hb : RB w vb xs) (hm : xs.length ≤ 140737488360000) :
    Calls Try.prog 19 #[.slice (some ⟨g, 0, none⟩) (xs.length + 4) (xs.length + 4), vb] w fun e w' => e = .returned (.bool true) ∧ ∃ m, w' = w.drewN m := by
  have HO : Hid (∀ k (h : k < xs.length), w.cell? ⟨g, k, none⟩ = some (byte xs[k])) := Lib.hid (fun k h => cell_is hg k (by
    have h2 : k < (mark4 xs 4).length := by rw [mark4_length xs 4 (by omega)]; omega
    have : (mark4 xs 4)[k]'h2 = xs[k] := by unfold mark4; exact List.getElem_append_left h
    simp [h2, this]))
  have HM : Hid (∀ k, xs.length ≤ k → k < xs.length + 4 → w.cell? ⟨g, k, none⟩ = some (.int .u8 165)) := Lib.hid (fun k h1 h3 => cell_is hg k (by
    have h2 : k < (mark4 xs 4).length := by rw [mark4_length xs 4 (by omega)]; omega
    have h5 : (mark4 xs 4)[k]? = some 0xA5 := by
      unfold mark4
      rw [List.getElem?_append_right h1, List.getElem?_append_left (by simp; omega), List.getElem?_replicate, if_pos (by omega)]
    rw [List.getElem?_toArray, List.getElem?_map, h5]
    rfl))
  have HB : Hid (∀ a c, vb = .slice a xs.length c → ∀ k (h : k < xs.length), ∃ b o, a = some ⟨b, o, none⟩ ∧ w.cell? ⟨b, o + k, none⟩ = some (byte xs[k])) := Lib.hid (by
    obtain ⟨a', c', rfl, h1, h2, h3⟩ := hb
    intro a c he k h
    cases he
    rcases h3 with ⟨rfl, rfl⟩ | ⟨b, o, s, rfl, hs, h4⟩
    · omega
    · obtain rfl := hs (fun h => by subst h; simp at *)
      exact ⟨b, o, rfl, h4 k h⟩)
  obtain ⟨a, c, rfl, -⟩ := hb
  clear hg
  go_enter Try.func19, Try.ntmps19
  go_wp2_with (fail)
  go_loopw [5] (fun i wr => StillRel w xs.length i wr) (fun i _ => xs.length + 4 - (intOf i).toNat)
  case atStart => exact ⟨0, 0, rfl, by omega, rfl⟩
  case round =>
    obtain ⟨k, m, rfl, hk, rfl⟩ := hrel
    by_cases hlt : k < xs.length
    · obtain ⟨b, o, rfl, h2⟩ := HB.out a c rfl k hlt
      have h1 := HO.out k hlt
      generalize xs[k] = x at *
      unfold byte at h1 h2
      have hne : ((x.toNat : Int) != (x.toNat : Int)) = false := by simp
      have hk4 : k < xs.length + 4 := by omega
      have hge : decide (xs.length ≤ k) = false := decide_eq_false (by omega)
      have hkl : decide ((k : Int) < (xs.length : Int)) = true := decide_eq_true (by omega)
      go_wp2_with (fail)
      go_quiet (fail)
      go_wp2_with (fail)
      go_roundw
      case rel => exact ⟨k + 1, _, by simp, by omega, rfl⟩
      case measure => simp [intOf]; omega
    · by_cases hl4 : k < xs.length + 4
      · have h1 := HM.out k (by omega) hl4
        have hki : ¬ (k : Int) < (xs.length : Int) := by omega
        have hge : decide ((xs.length : Int) ≤ (k : Int)) = true := decide_eq_true (by omega)
        have hkl : decide ((k : Int) < (xs.length : Int)) = false := decide_eq_false (by omega)
        go_wp2_with (fail)
        go_quiet (fail)
        go_wp2_with (fail)
        go_roundw
        case rel => exact ⟨k + 1, _, by simp, by omega, rfl⟩
        case measure => simp [intOf]; omega
      · obtain rfl : k = xs.length + 4 := by omega
        go_wp2_with (fail)
        go_ret
        exact ⟨rfl, m, rfl⟩

end Go.Proofs.Ytpecbhimnpjkdaa
