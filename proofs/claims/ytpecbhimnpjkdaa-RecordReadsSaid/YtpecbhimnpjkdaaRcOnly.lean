/- The numbers at some places. -/
import Derived.Test.YtpecbhimnpjkdaaRcNums
namespace Go.Proofs.Ytpecbhimnpjkdaa
open Go.RowKit Go.Sb

/-- the numbers that the first j places have -/
def onlyTo (ns : List Int) (l : List Nat) (j : Nat) : List Int := (List.range 16).map fun i => if i ∈ l.take j then at0 ns i else 0
def onlyL (ns : List Int) (l : List Nat) : List Int := onlyTo ns l l.length

theorem onlyTo_length (ns : List Int) (l : List Nat) (j : Nat) : (onlyTo ns l j).length = 16 := by simp [onlyTo]

theorem onlyTo_step {ns : List Int} {l : List Nat} {j : Nat} (hj : j < l.length) (h16 : l[j] < 16) : (onlyTo ns l j).set l[j] (at0 ns l[j]) = onlyTo ns l (j + 1) := by
  apply List.ext_getElem?
  intro i
  unfold onlyTo
  rw [List.getElem?_set, List.length_map, List.length_range]
  by_cases he : l[j] = i
  · rw [if_pos he, if_pos h16]
    subst he
    rw [List.getElem?_map, List.getElem?_range h16, Option.map_some, if_pos (List.mem_take_iff_getElem.2 ⟨j, by omega, rfl⟩)]
  · rw [if_neg he]
    by_cases hi : i < 16
    · rw [List.getElem?_map, List.getElem?_map, List.getElem?_range hi, Option.map_some, Option.map_some]
      congr 1
      rw [List.take_succ_eq_append_getElem hj]
      simp only [List.mem_append, List.mem_singleton]
      have : ¬ i = l[j] := fun e => he e.symm
      simp [this]
    · rw [List.getElem?_eq_none (by simp; omega), List.getElem?_eq_none (by simp; omega)]

theorem info54o {os : List Int} (h : os.length = 16) : (Try.prog.info? 54).map (·.size) = some (os.map iv).toArray.size := by
  rw [info54s]
  simp [h]

theorem iv_one (os : List Int) : ∀ v ∈ (os.map iv).toArray.toList, v.oneCell' = true := by
  intro v hv
  obtain ⟨n, _, rfl⟩ := List.mem_map.1 (by simpa using hv)
  rfl

theorem load_guard {P : Program} {w : World} {ops : Array Oper} {rest : List Oper} {o : Oper} {a : Act} {Q : Exit → Act → World → Prop} (ao : Operand) (t : TypeId) (_hop : o.op = Op.load t ao) (h : wpList P ops Q (o :: rest) a w) : wpList P ops Q (o :: rest) a w := h

theorem onlyTo_zero (ns : List Int) (l : List Nat) : onlyTo ns l 0 = List.replicate 16 0 := rfl

/-- a row of places in memory -/
def OfRow (w : World) (l : List Nat) (v : Value) : Prop := ∃ bl, v = .slice (some ⟨bl, 0, none⟩) l.length l.length ∧ w.heap[bl]? = some (.cells (l.map natV).toArray 3 (0, 0)) ∧ 0 < l.length ∧ l.length ≤ 16 ∧ ∀ x ∈ l, x < 16

def OnlyRel (ns : List Int) (l : List Nat) (b5 : Nat) (w2 : World) (i : Value) (wr : World) : Prop :=
  ∃ k : Nat, i = .int .i64 (k : Int) ∧ k ≤ l.length ∧ wr.heap[b5]? = some (boxN (onlyTo ns l k)) ∧ Fr (fun x => x = b5) w2 wr

set_option maxRecDepth 100000 in
set_option maxHeartbeats 2000000 in
theorem only_any (ns : List Int) (l : List Nat) (v : Value) (w : World) (hl : ns.length = 16) (hv : OfRow w l v) :
    Calls Try.prog 32 #[.agg (ns.map iv).toArray, v] w fun e w' => e = .returned (.agg ((onlyL ns l).map iv).toArray) ∧ Fr (fun _ => False) w w' := by
  obtain ⟨bl, rfl, hbl, hl0, hl16, hlx⟩ := hv
  have hbz := lt_of_heap hbl
  have hbl0 : Hid (0 < l.length) := Lib.hid hl0
  have HLX := Lib.hid hlx
  have hsz : (ns.map iv).toArray.size = 16 := by simp [hl]
  clear hlx
  go_enter Try.func32, Try.ntmps32
  go_wp2_with (fail)
  have hA : (((w.alloc (.cells (ns.map iv).toArray 54)).alloc (.cells #[.int .i64 0, .int .i64 0, .int .i64 0, .int .i64 0, .int .i64 0, .int .i64 0, .int .i64 0, .int .i64 0, .int .i64 0, .int .i64 0, .int .i64 0, .int .i64 0, .int .i64 0, .int .i64 0, .int .i64 0, .int .i64 0] 54)).alloc (.cells #[.int .i64 0, .int .i64 0, .int .i64 0, .int .i64 0, .int .i64 0, .int .i64 0, .int .i64 0, .int .i64 0, .int .i64 0, .int .i64 0, .int .i64 0, .int .i64 0, .int .i64 0, .int .i64 0, .int .i64 0, .int .i64 0] 54)).heap[w.heap.size]? = some (.cells (ns.map iv).toArray 54 (0, 0)) := (heap_alloc_lt _ _ _ (by simp; omega)).trans ((heap_alloc_lt _ _ _ (by simp)).trans (heap_alloc_eq _ _))
  have hB : (((w.alloc (.cells (ns.map iv).toArray 54)).alloc (.cells #[.int .i64 0, .int .i64 0, .int .i64 0, .int .i64 0, .int .i64 0, .int .i64 0, .int .i64 0, .int .i64 0, .int .i64 0, .int .i64 0, .int .i64 0, .int .i64 0, .int .i64 0, .int .i64 0, .int .i64 0, .int .i64 0] 54)).alloc (.cells #[.int .i64 0, .int .i64 0, .int .i64 0, .int .i64 0, .int .i64 0, .int .i64 0, .int .i64 0, .int .i64 0, .int .i64 0, .int .i64 0, .int .i64 0, .int .i64 0, .int .i64 0, .int .i64 0, .int .i64 0, .int .i64 0] 54)).heap[w.heap.size + 1]? = some (.cells #[.int .i64 0, .int .i64 0, .int .i64 0, .int .i64 0, .int .i64 0, .int .i64 0, .int .i64 0, .int .i64 0, .int .i64 0, .int .i64 0, .int .i64 0, .int .i64 0, .int .i64 0, .int .i64 0, .int .i64 0, .int .i64 0] 54 (0, 0)) := (heap_alloc_lt _ _ _ (by simp)).trans (by have := heap_alloc_eq (w.alloc (.cells (ns.map iv).toArray 54)) (.cells #[.int .i64 0, .int .i64 0, .int .i64 0, .int .i64 0, .int .i64 0, .int .i64 0, .int .i64 0, .int .i64 0, .int .i64 0, .int .i64 0, .int .i64 0, .int .i64 0, .int .i64 0, .int .i64 0, .int .i64 0, .int .i64 0] 54); rw [World.size_alloc] at this; exact this)
  have hC : (((w.alloc (.cells (ns.map iv).toArray 54)).alloc (.cells #[.int .i64 0, .int .i64 0, .int .i64 0, .int .i64 0, .int .i64 0, .int .i64 0, .int .i64 0, .int .i64 0, .int .i64 0, .int .i64 0, .int .i64 0, .int .i64 0, .int .i64 0, .int .i64 0, .int .i64 0, .int .i64 0] 54)).alloc (.cells #[.int .i64 0, .int .i64 0, .int .i64 0, .int .i64 0, .int .i64 0, .int .i64 0, .int .i64 0, .int .i64 0, .int .i64 0, .int .i64 0, .int .i64 0, .int .i64 0, .int .i64 0, .int .i64 0, .int .i64 0, .int .i64 0] 54)).heap[w.heap.size + 1 + 1]? = some (.cells #[.int .i64 0, .int .i64 0, .int .i64 0, .int .i64 0, .int .i64 0, .int .i64 0, .int .i64 0, .int .i64 0, .int .i64 0, .int .i64 0, .int .i64 0, .int .i64 0, .int .i64 0, .int .i64 0, .int .i64 0, .int .i64 0] 54 (0, 0)) := by have := heap_alloc_eq ((w.alloc (.cells (ns.map iv).toArray 54)).alloc (.cells #[.int .i64 0, .int .i64 0, .int .i64 0, .int .i64 0, .int .i64 0, .int .i64 0, .int .i64 0, .int .i64 0, .int .i64 0, .int .i64 0, .int .i64 0, .int .i64 0, .int .i64 0, .int .i64 0, .int .i64 0, .int .i64 0] 54)) (.cells #[.int .i64 0, .int .i64 0, .int .i64 0, .int .i64 0, .int .i64 0, .int .i64 0, .int .i64 0, .int .i64 0, .int .i64 0, .int .i64 0, .int .i64 0, .int .i64 0, .int .i64 0, .int .i64 0, .int .i64 0, .int .i64 0] 54); rw [World.size_alloc, World.size_alloc] at this; exact this
  have hF : Fr (fun _ => False) w (((w.alloc (.cells (ns.map iv).toArray 54)).alloc (.cells #[.int .i64 0, .int .i64 0, .int .i64 0, .int .i64 0, .int .i64 0, .int .i64 0, .int .i64 0, .int .i64 0, .int .i64 0, .int .i64 0, .int .i64 0, .int .i64 0, .int .i64 0, .int .i64 0, .int .i64 0, .int .i64 0] 54)).alloc (.cells #[.int .i64 0, .int .i64 0, .int .i64 0, .int .i64 0, .int .i64 0, .int .i64 0, .int .i64 0, .int .i64 0, .int .i64 0, .int .i64 0, .int .i64 0, .int .i64 0, .int .i64 0, .int .i64 0, .int .i64 0, .int .i64 0] 54)) := (((Fr.refl _ w).alloc _).alloc _).alloc _
  have hL := hF.get hbl id
  have HA := Lib.hid hA
  have HB := Lib.hid hB
  have HC : Hid (_ = some (boxN (onlyTo ns l 0))) := Lib.hid hC
  have HF := Lib.hid hF
  have HL := Lib.hid hL
  clear hA hB hC hF hL hbl
  generalize (((w.alloc (.cells (ns.map iv).toArray 54)).alloc (.cells #[.int .i64 0, .int .i64 0, .int .i64 0, .int .i64 0, .int .i64 0, .int .i64 0, .int .i64 0, .int .i64 0, .int .i64 0, .int .i64 0, .int .i64 0, .int .i64 0, .int .i64 0, .int .i64 0, .int .i64 0, .int .i64 0] 54)).alloc (.cells #[.int .i64 0, .int .i64 0, .int .i64 0, .int .i64 0, .int .i64 0, .int .i64 0, .int .i64 0, .int .i64 0, .int .i64 0, .int .i64 0, .int .i64 0, .int .i64 0, .int .i64 0, .int .i64 0, .int .i64 0, .int .i64 0] 54)) = w2 at *
  have hn1 : w.heap.size + 1 + 1 ≠ bl := by omega
  have hle1 : w.heap.size ≤ w.heap.size + 1 := by omega
  have hle2 : w.heap.size ≤ w.heap.size + 1 + 1 := by omega
  have hn2 : w.heap.size ≠ w.heap.size + 1 + 1 := by omega
  have hn3 : w.heap.size + 1 ≠ w.heap.size + 1 + 1 := by omega
  generalize hq5 : w.heap.size + 1 + 1 = b5 at *
  generalize hq4 : w.heap.size + 1 = b4 at *
  generalize hq2 : w.heap.size = b2 at *
  go_loopw [10] (fun i wr => OnlyRel ns l b5 w2 i wr) (fun i _ => l.length - (intOf i).toNat)
  case atStart => exact ⟨0, rfl, by omega, HC.out, Fr.refl _ _⟩
  case round =>
    obtain ⟨k, rfl, hk, hx, hf⟩ := hrel
    have HX := Lib.hid hx
    have HF2 := Lib.hid hf
    clear hx hf
    by_cases hlt : k < l.length
    · have hlk : l[k] < 16 := HLX.out _ (List.getElem_mem hlt)
      have c1 : wr.cell? ⟨bl, k, none⟩ = some (.int .i64 (l[k] : Int)) := cell_is (HF2.out.get HL.out (fun h => hn1 h.symm)) k (by simp [natV, hlt])
      have c2 : wr.cell? ⟨b2, l[k], none⟩ = some (.int .i64 (at0 ns l[k])) := cell_is (HF2.out.get HA.out hn2) l[k] (by unfold at0; simp [iv, hl, hlk])
      have c3 : wr.cell? ⟨b5, l[k], none⟩ = some (.int .i64 (at0 (onlyTo ns l k) l[k])) := boxN_cell HX.out (by rw [onlyTo_length]; exact hlk)
      have z3 : wr.frozen? ⟨b5, l[k], none⟩ = false := frozen_of HX.out _
      have hstep := Lib.hid (onlyTo_step (ns := ns) hlt hlk)
      have HE : Hid ((wr.setCell ⟨b5, l[k], none⟩ (.int .i64 (at0 ns l[k]))).heap[b5]? = some (boxN (onlyTo ns l (k + 1)))) := by
        refine Lib.hid ?_
        have h := heap_setCell_eq (l[k]) (.int .i64 (at0 ns l[k])) HX.out
        rw [h, ← hstep.out]
        unfold boxN
        rw [List.map_set]
        simp [iv]
      have HF3 : Hid (Fr (fun x => x = b5) w2 (wr.setCell ⟨b5, l[k], none⟩ (.int .i64 (at0 ns l[k])))) := Lib.hid (HF2.out.setCell (.inl rfl) _)
      generalize l[k] = at' at *
      go_wp2_with (fail)
      go_roundw
      case rel => exact ⟨k + 1, rfl, by omega, HE.out, HF3.out⟩
      case measure => simp [intOf]; omega
    · have hke : k = l.length := by omega
      subst hke
      have hlen := onlyTo_length ns l l.length
      have HB2 := Lib.hid (HF2.out.get HB.out hn3)
      have HF3 := Lib.hid (HF.out.trans HF2.out (fun k hk h => absurd hk (by omega)))
      have hi := info54o hlen
      have ho1 := iv_one (onlyTo ns l l.length)
      have hs16 : ((onlyTo ns l l.length).map iv).toArray.size = 16 := by simp [hlen]
      unfold onlyL at *
      have HXX : wr.heap[b5]? = some (.cells ((onlyTo ns l l.length).map iv).toArray 54 (0, 0)) := HX.out
      go_wp2_with (first | ((refine load_guard _ _ rfl ?_); refine wpList_load_row rfl 54 _ rfl b5 rfl 54 _ (0, 0) _ HXX Try.underlying54 rfl hi ?_) | ((refine store_guard _ _ _ _ rfl ?_); refine wpList_store_agg _ rfl _ _ 54 rfl b4 54 _ _ rfl rfl hi HB2.out hs16.symm ho1 ?_; intro w3 hw3 hf3))
      refine bodyPost_ret (v := .agg ((onlyTo ns l l.length).map iv).toArray) (results_cell_row rfl _ _ b4 54 _ (0, 0) _ rfl hw3 Try.underlying54 rfl hi) rfl ⟨rfl, HF3.out.trans hf3 (fun x hx h => absurd hx (by omega))⟩

end Go.Proofs.Ytpecbhimnpjkdaa

