/- What Check's answer OK says of a record; Put and Size of any record. -/
import Derived.Test.YtpecbhimnpjkdaaRcPut
namespace Go.Proofs.Ytpecbhimnpjkdaa
open Go.RowKit Go.Sb

theorem check0 {k : Int} {ns : List Int} {tube : ByteArray} {bn : Nat} (h : checkE k ns tube bn = 0) : Kind k ∧ ns = onlyL ns (ofList k) ∧ mayB ns k = true ∧ textsB k tube bn = true := by
  unfold checkE at h
  by_cases hk : Kind k
  · rw [if_pos hk] at h
    cases ho : okB k ns tube bn
    · rw [ho] at h
      simp at h
    · unfold okB at ho
      simp only [Bool.and_eq_true, beq_iff_eq] at ho
      exact ⟨hk, ho.1, ho.2.1, ho.2.2⟩
  · rw [if_neg hk] at h
    simp at h

theorem job_facts {ns : List Int} (h : jobB ns = true) : ∀ i ∈ [0, 1, 2, 5, 6, 7, 8, 9, 10, 11, 12], 0 ≤ at0 ns i ∧ at0 ns i ≤ 4611686018427387903 := by
  unfold jobB at h
  simp only [Bool.and_eq_true, decide_eq_true_eq] at h
  obtain ⟨hs, hc, hd, ho, ht⟩ := h
  unfold StateOk at hs
  unfold countsB at hc
  unfold tailB at ht
  simp only [Bool.and_eq_true] at ht
  have hc' : ∀ j, j < 5 → 0 ≤ at0 ns (8 + j) ∧ at0 ns (8 + j) ≤ 4611686018427387903 := fun j hj => inB3_true (by
    have := List.all_eq_true.1 hc j (by simpa using hj)
    exact this)
  have hd' : 0 ≤ at0 ns 6 ∧ at0 ns 6 ≤ 4611686018427387903 := by
    unfold dueB at hd
    by_cases h5 : at0 ns 5 = 2
    · rw [if_pos h5] at hd
      have := inB3_true hd
      omega
    · rw [if_neg h5] at hd
      have := inB3_true hd
      omega
  have ho' : 0 ≤ at0 ns 7 ∧ at0 ns 7 ≤ 4611686018427387903 := by
    unfold orderB at ho
    by_cases h5 : at0 ns 5 = 4
    · rw [if_pos h5] at ho
      have := inB3_true ho
      omega
    · rw [if_neg h5] at ho
      have := inB3_true ho
      omega
  have h0 := inB3_true ht.1
  have h1 := inB3_true ht.2.1
  have h2 := inB3_true ht.2.2
  have c0 := hc' 0 (by decide)
  have c1 := hc' 1 (by decide)
  have c2 := hc' 2 (by decide)
  have c3 := hc' 3 (by decide)
  have c4 := hc' 4 (by decide)
  intro i hi
  simp only [List.mem_cons, List.not_mem_nil, or_false] at hi
  rcases hi with rfl | rfl | rfl | rfl | rfl | rfl | rfl | rfl | rfl | rfl | rfl
  · omega
  · omega
  · omega
  · omega
  · exact hd'
  · exact ho'
  · exact c0
  · exact c1
  · exact c2
  · exact c3
  · exact c4

theorem check_pos {k : Int} {ns : List Int} {tube : ByteArray} {bn : Nat} (h : checkE k ns tube bn = 0) : ∀ i ∈ ofList k, 0 ≤ at0 ns i ∧ at0 ns i ≤ 4611686018427387903 := by
  obtain ⟨hk, -, hm, -⟩ := check0 h
  clear h
  rcases hk with rfl | rfl | rfl | rfl
  · rw [show mayB ns 1 = (inB3 (at0 ns 13) 1 1099511627776 && inB3 (at0 ns 14) 1 1099511627777) from rfl, Bool.and_eq_true] at hm
    have h0 := inB3_true hm.1
    have h1 := inB3_true hm.2
    intro i hi
    rw [show ofList 1 = [13, 14] from rfl] at hi
    simp only [List.mem_cons, List.not_mem_nil, or_false] at hi
    rcases hi with rfl | rfl <;> omega
  · rw [show mayB ns 2 = (jobB ns && (inB3 (at0 ns 3) 1 4294967295 && inB3 (at0 ns 4) 0 1099511627776)) from rfl, Bool.and_eq_true, Bool.and_eq_true] at hm
    have h0 := inB3_true hm.2.1
    have h1 := inB3_true hm.2.2
    have hj := job_facts hm.1
    intro i hi
    rw [show ofList 2 = [0, 1, 2, 3, 4, 5, 6, 7, 8, 9, 10, 11, 12] from rfl] at hi
    by_cases h3 : i = 3
    · subst h3; omega
    by_cases h4 : i = 4
    · subst h4; omega
    exact hj i (by simp only [List.mem_cons, List.not_mem_nil, or_false] at hi ⊢; omega)
  · exact job_facts hm
  · have h0 := inB3_true (show inB3 (at0 ns 15) 1 1099511627776 = true from hm)
    intro i hi
    rw [show ofList 4 = [15] from rfl] at hi
    simp only [List.mem_cons, List.not_mem_nil, or_false] at hi
    subst hi
    omega

theorem check_text {k : Int} {ns : List Int} {tube : ByteArray} {bn : Nat} (h : checkE k ns tube bn = 0) : k = 2 → tube.size ≤ 200 ∧ bn ≤ 65535 := by
  intro hk
  subst hk
  have ht := (check0 h).2.2.2
  unfold textsB validB at ht
  simp only [if_true, Bool.and_eq_true, decide_eq_true_eq] at ht
  exact ⟨ht.1.1.2, by omega⟩

theorem ofList_len (k : Int) : (ofList k).length ≤ 13 := by
  unfold ofList
  split
  · decide
  · split
    · decide
    · split
      · decide
      · split <;> decide

def putX (k : Int) (ns : List Int) (tube : ByteArray) (xs : List UInt8) : List UInt8 := if checkE k ns tube xs.length = 0 then putL k ns tube xs else []

def TwoPost (xs : List UInt8) (r : Int) (w : World) (e : Ending) (w' : World) : Prop :=
  ∃ v, e = .returned (.tuple #[v, .int .i64 r]) ∧ OB 5 (fun x => w.heap.size ≤ x) w' v xs ∧ Fr (fun _ => False) w w'

theorem put_any (k : Int) (ns : List Int) (tube : ByteArray) (v : Value) (xs : List UInt8) (w : World) (hl : ns.length = 16) (hv : RB w v xs) :
    Calls Try.prog 13 #[recV k ns tube v] w (TwoPost (putX k ns tube xs) (checkE k ns tube xs.length) w) := by
  have hv0 := hv
  obtain ⟨a, c, rfl, -⟩ := hv0
  by_cases hc : checkE k ns tube xs.length = 0
  · have hp : putX k ns tube xs = putL k ns tube xs := if_pos hc
    rw [hp, hc]
    exact put_yes k ns tube a xs.length c xs w hl (check0 hc).1 (Lib.hid hc) (Lib.hid (fun i hi => by have := check_pos hc i hi; omega)) (Lib.hid hv) (Lib.hid (check_text hc))
  · have hp : putX k ns tube xs = [] := if_neg hc
    rw [hp]
    refine (put_no k ns tube a xs.length c w _ hl (by simpa using hc) (Lib.hid rfl)).mono ?_
    rintro e w' ⟨rfl, hf⟩
    exact ⟨_, rfl, Own.nil _ _ _ _, hf⟩

def sizeN (k : Int) (ns : List Int) (tube : ByteArray) (bn : Nat) : Nat :=
  if checkE k ns tube bn = 0 then 9 + 8 * (ofList k).length + (if k = 2 then 1 + tube.size + bn else 0) else 0

set_option maxRecDepth 100000 in
set_option maxHeartbeats 2000000 in
theorem size_no (k : Int) (ns : List Int) (tube : ByteArray) (bp : Option Addr) (bn bc : Nat) (w : World) (r : Int) (hl : ns.length = 16) (hr : (r == 0) = false) (hc : Hid (checkE k ns tube bn = r)) :
    Calls Try.prog 18 #[recV k ns tube (.slice bp bn bc)] w fun e w' => e = .returned (.int .i64 0) ∧ Fr (fun _ => False) w w' := by
  have hg := heap_alloc_eq w (.cells (recC k ns tube (.slice bp bn bc)) 29)
  have hi29 : (Try.prog.info? 29).map (·.size) = some (recC k ns tube (.slice bp bn bc)).size := info29s
  have HCH : Hid (∀ w' : World, Calls Try.prog 14 #[.agg (recC k ns tube (.slice bp bn bc))] w' fun e w'' => e = .returned (.int .i64 r) ∧ Fr (fun _ => False) w' w'') := Lib.hid (fun w' => by
    have h := check_any k ns tube bp bn bc w' hl
    rw [hc.out] at h
    exact h)
  have HG := Lib.hid hg
  have HF0 := Lib.hid ((Fr.refl (fun _ => False) w).alloc (.cells (recC k ns tube (.slice bp bn bc)) 29))
  clear hg hc
  unfold recV
  generalize recC k ns tube (.slice bp bn bc) = rc at *
  go_enter Try.func18, Try.ntmps18
  go_wp2_with ((refine load_guard _ _ rfl ?_); refine wpList_load_row rfl 29 _ rfl w.heap.size rfl 29 _ (0, 0) _ HG.out Try.underlying29 rfl hi29 ?_)
  refine (HCH.out _).mono ?_
  rintro e w2 ⟨rfl, hf2⟩
  have HF2 := Lib.hid (HF0.out.trans hf2 (fun _ _ h => h))
  clear hf2
  go_wp2_with (fail)
  go_ret
  exact ⟨rfl, HF2.out⟩

set_option maxRecDepth 100000 in
set_option maxHeartbeats 2000000 in
theorem size_yes (k : Int) (ns : List Int) (tube : ByteArray) (bp : Option Addr) (bn bc : Nat) (w : World) (hl : ns.length = 16) (hk : Kind k) (hc : Hid (checkE k ns tube bn = 0)) (n : Nat) (hn : Hid (n = 9 + 8 * (ofList k).length + (if k = 2 then 1 + tube.size + bn else 0))) :
    Calls Try.prog 18 #[recV k ns tube (.slice bp bn bc)] w fun e w' => e = .returned (.int .i64 (n : Int)) ∧ Fr (fun _ => False) w w' := by
  have hg := heap_alloc_eq w (.cells (recC k ns tube (.slice bp bn bc)) 29)
  have hi29 : (Try.prog.info? 29).map (·.size) = some (recC k ns tube (.slice bp bn bc)).size := info29s
  have HCH : Hid (∀ w' : World, Calls Try.prog 14 #[.agg (recC k ns tube (.slice bp bn bc))] w' fun e w'' => e = .returned (.int .i64 0) ∧ Fr (fun _ => False) w' w'') := Lib.hid (fun w' => by
    have h := check_any k ns tube bp bn bc w' hl
    rw [hc.out] at h
    exact h)
  have hcell : Hid (∀ w' : World, w'.heap[w.heap.size]? = some (.cells (recC k ns tube (.slice bp bn bc)) 29 (0, 0)) → w'.cell? ⟨w.heap.size, 0, none⟩ = some (.int .i64 k) ∧ w'.cell? ⟨w.heap.size, 17, none⟩ = some (.string tube) ∧ w'.cell? ⟨w.heap.size, 18, none⟩ = some (.slice bp bn bc)) :=
    Lib.hid (fun w' h => ⟨cell_is h 0 rfl, cell_is h 17 rfl, cell_is h 18 rfl⟩)
  have HTX := Lib.hid (check_text hc.out)
  have HG := Lib.hid hg
  have HF0 := Lib.hid ((Fr.refl (fun _ => False) w).alloc (.cells (recC k ns tube (.slice bp bn bc)) 29))
  clear hg hc
  unfold recV
  generalize recC k ns tube (.slice bp bn bc) = rc at *
  go_enter Try.func18, Try.ntmps18
  go_wp2_with ((refine load_guard _ _ rfl ?_); refine wpList_load_row rfl 29 _ rfl w.heap.size rfl 29 _ (0, 0) _ HG.out Try.underlying29 rfl hi29 ?_)
  refine (HCH.out _).mono ?_
  rintro e w2 ⟨rfl, hf2⟩
  have HF2 := Lib.hid (HF0.out.trans hf2 (fun _ _ h => h))
  have hg2 := hf2.get HG.out id
  have HG2 := Lib.hid hg2
  obtain ⟨c0, c17, c18⟩ := hcell.out w2 hg2
  have hlt := lt_of_heap hg2
  clear hf2 HG HF0 hg2
  go_wp2_with (fail)
  refine (of_yes k _ hk).mono ?_
  rintro e w5 ⟨rfl, rfl⟩
  have hl13 := ofList_len k
  generalize hlist : (ofList k).length = ll at *
  have HLL := Lib.hid hlist
  clear hlist
  cases h2 : (k == 2)
  · go_wp2_with (fail)
    go_ret
    refine ⟨?_, (HF2.out.alloc _)⟩
    rw [hn.out, if_neg (by intro e; subst e; simp at h2)]
    rw [show ((9 + 8 * ll + 0 : Nat) : Int) = 9 + 8 * (ll : Int) by omega]
    rfl
  · have hk2 : k = 2 := by simpa using h2
    obtain ⟨ht1, ht2⟩ := HTX.out hk2
    go_wp2_with (fail)
    go_ret
    refine ⟨?_, (HF2.out.alloc _)⟩
    rw [hn.out, if_pos hk2]
    rw [show ((9 + 8 * ll + (1 + tube.size + bn) : Nat) : Int) = 9 + 8 * (ll : Int) + (1 + (tube.size : Int) + (bn : Int)) by omega]
    rfl

theorem size_any (k : Int) (ns : List Int) (tube : ByteArray) (bp : Option Addr) (bn bc : Nat) (w : World) (hl : ns.length = 16) :
    Calls Try.prog 18 #[recV k ns tube (.slice bp bn bc)] w fun e w' => e = .returned (.int .i64 (sizeN k ns tube bn : Int)) ∧ Fr (fun _ => False) w w' := by
  by_cases hc : checkE k ns tube bn = 0
  · have hp : sizeN k ns tube bn = 9 + 8 * (ofList k).length + (if k = 2 then 1 + tube.size + bn else 0) := if_pos hc
    exact size_yes k ns tube bp bn bc w hl (check0 hc).1 (Lib.hid hc) _ (Lib.hid hp)
  · have hp : sizeN k ns tube bn = 0 := if_neg hc
    rw [hp]
    exact size_no k ns tube bp bn bc w _ hl (by simpa using hc) (Lib.hid rfl)

end Go.Proofs.Ytpecbhimnpjkdaa
