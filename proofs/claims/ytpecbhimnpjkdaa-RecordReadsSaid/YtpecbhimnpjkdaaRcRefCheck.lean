/- The document's Check, walked. (Printed by rcrefcheck.py.) -/
import Derived.Test.YtpecbhimnpjkdaaRcRef
import Derived.Test.YtpecbhimnpjkdaaRcFacts
namespace Go.Proofs.Ytpecbhimnpjkdaa
open Go.RowKit Go.Sb

section
variable {w : World} {ops : Array Oper} {rest : List Oper} {o : Oper} {a : Act} {Q : Exit → Act → World → Prop}
theorem wpList_load_arr_w (hw : Region.wanted o (yielded ops a.tmps) = true) (ty : TypeId) (x : Operand) (ho : o.op = .load ty x)
    (b off : Nat) (hx : a.eval x = .pointer (some ⟨b, off, none⟩)) (cs : Array Value) (d : TypeDesc) (hc : w.rangeAt b off cs.toList)
    (hu : Try.prog.underlying ty = some d) (hd : d.isRow = true) (hi : (Try.prog.info? ty).map (·.size) = some cs.size)
    (h : wpList Try.prog ops Q rest (a.put o.dst (.agg cs)) w) : wpList Try.prog ops Q (o :: rest) a w :=
  wpList_load_mid_w hw ty x ho b off hx cs.toList d hc hu hd (by simpa using hi) (by rw [Array.toArray_toList]; exact h)
end

theorem only_eq {ns : List Int} (hl : ns.length = 16) (l : List Nat) : (ns == onlyL ns l) = (List.range 16).all fun i => decide (i ∈ l) || zB ns i := by
  have h1 : ∀ i, i < 16 → (onlyL ns l)[i]? = some (if i ∈ l then at0 ns i else 0) := fun i hi => by
    unfold onlyL onlyTo
    rw [List.getElem?_map, List.getElem?_range hi, List.take_length]
    rfl
  have h2 : ∀ i, i < 16 → ns[i]? = some (at0 ns i) := fun i hi => by
    unfold at0
    rw [List.getD_eq_getElem?_getD, List.getElem?_eq_getElem (by omega)]
    rfl
  rw [Bool.eq_iff_iff, beq_iff_eq, List.all_eq_true]
  constructor
  · intro h i hi
    have hi' : i < 16 := by simpa using hi
    by_cases hm : i ∈ l
    · simp [hm]
    · have e1 := h1 i hi'
      rw [← h, h2 i hi', if_neg hm] at e1
      have : at0 ns i = 0 := by simpa using e1
      simp [zB, this]
  · intro h
    apply List.ext_getElem?
    intro i
    by_cases hi : i < 16
    · rw [h1 i hi, h2 i hi]
      have := h i (by simpa using hi)
      by_cases hm : i ∈ l
      · rw [if_pos hm]
      · rw [if_neg hm]
        simp [hm, zB] at this
        rw [this]
    · rw [List.getElem?_eq_none (by omega), List.getElem?_eq_none (by unfold onlyL; rw [onlyTo_length]; omega)]

def refOk (k : Int) (ns : List Int) (tube : ByteArray) (bn : Nat) : Bool :=
  if k = 1 then inB3 (at0 ns 13) 1 1099511627776 && (inB3 (at0 ns 14) 1 1099511627777 && (zB ns 15 && blankB ns tube bn))
  else if k = 2 then zB ns 13 && (zB ns 14 && (zB ns 15 && (jobB ns && lastB ns tube bn)))
  else if k = 3 then zB ns 13 && (zB ns 14 && (zB ns 15 && (jobB ns && shortB ns tube bn)))
  else zB ns 13 && (zB ns 14 && (inB3 (at0 ns 15) 1 1099511627776 && blankB ns tube bn))

theorem range16 : List.range 16 = [0, 1, 2, 3, 4, 5, 6, 7, 8, 9, 10, 11, 12, 13, 14, 15] := by decide

theorem ref_ok {k : Int} {ns : List Int} {tube : ByteArray} {bn : Nat} (hk : Kind k) (hl : ns.length = 16) : okB k ns tube bn = refOk k ns tube bn := by
  unfold okB
  rw [only_eq hl, range16]
  rcases hk with rfl | rfl | rfl | rfl
  · rw [show ofList 1 = [13, 14] from rfl, show mayB ns 1 = (inB3 (at0 ns 13) 1 1099511627776 && inB3 (at0 ns 14) 1 1099511627777) from rfl, show textsB 1 tube bn = (tube.toList == [] && (bn : Int) == 0) from rfl, tubeE]
    rw [show refOk 1 ns tube bn = (inB3 (at0 ns 13) 1 1099511627776 && (inB3 (at0 ns 14) 1 1099511627777 && (zB ns 15 && blankB ns tube bn))) from rfl]
    unfold blankB shortB
    simp [Bool.and_assoc]
    ac_rfl
  · rw [show ofList 2 = [0, 1, 2, 3, 4, 5, 6, 7, 8, 9, 10, 11, 12] from rfl, show mayB ns 2 = (jobB ns && (inB3 (at0 ns 3) 1 4294967295 && inB3 (at0 ns 4) 0 1099511627776)) from rfl, show textsB 2 tube bn = (validB tube && decide ((bn : Int) ≤ 65535)) from rfl]
    rw [show refOk 2 ns tube bn = (zB ns 13 && (zB ns 14 && (zB ns 15 && (jobB ns && lastB ns tube bn)))) from rfl]
    unfold lastB
    simp [Bool.and_assoc]
  · rw [show ofList 3 = [0, 1, 2, 5, 6, 7, 8, 9, 10, 11, 12] from rfl, show mayB ns 3 = jobB ns from rfl, show textsB 3 tube bn = (tube.toList == [] && (bn : Int) == 0) from rfl, tubeE]
    rw [show refOk 3 ns tube bn = (zB ns 13 && (zB ns 14 && (zB ns 15 && (jobB ns && shortB ns tube bn)))) from rfl]
    unfold shortB
    simp [Bool.and_assoc]
    ac_rfl
  · rw [show ofList 4 = [15] from rfl, show mayB ns 4 = inB3 (at0 ns 15) 1 1099511627776 from rfl, show textsB 4 tube bn = (tube.toList == [] && (bn : Int) == 0) from rfl, tubeE]
    rw [show refOk 4 ns tube bn = (zB ns 13 && (zB ns 14 && (inB3 (at0 ns 15) 1 1099511627776 && blankB ns tube bn))) from rfl]
    unfold blankB shortB
    simp [Bool.and_assoc]
    ac_rfl

set_option maxRecDepth 100000 in
set_option maxHeartbeats 2000000 in
theorem refcheck_1 (ns : List Int) (tube : ByteArray) (bp : Option Addr) (bn bc : Nat) (w : World) (r : Int) (HRR : Hid (r = if refOk 1 ns tube bn then 0 else 101)) : Calls Try.prog 20 #[recV 1 ns tube (.slice bp bn bc)] w fun e w' => e = .returned (.int .i64 r) ∧ Fr (fun _ => False) w w' := by
  have HG := Lib.hid (heap_alloc_eq w (.cells (recC 1 ns tube (.slice bp bn bc)) 29))
  have HF := Lib.hid ((Fr.refl (fun _ => False) w).alloc (.cells (recC 1 ns tube (.slice bp bn bc)) 29))
  have c0 : (w.alloc (.cells (recC 1 ns tube (.slice bp bn bc)) 29)).cell? ⟨w.heap.size, 0, none⟩ = some (.int .i64 1) := cell_is HG.out 0 rfl
  have c1 : (w.alloc (.cells (recC 1 ns tube (.slice bp bn bc)) 29)).cell? ⟨w.heap.size, 1, none⟩ = some (.int .i64 (at0 ns 13)) := cell_is HG.out 1 rfl
  have c2 : (w.alloc (.cells (recC 1 ns tube (.slice bp bn bc)) 29)).cell? ⟨w.heap.size, 2, none⟩ = some (.int .i64 (at0 ns 14)) := cell_is HG.out 2 rfl
  have c3 : (w.alloc (.cells (recC 1 ns tube (.slice bp bn bc)) 29)).cell? ⟨w.heap.size, 3, none⟩ = some (.int .i64 (at0 ns 15)) := cell_is HG.out 3 rfl
  have HR : Hid (∀ w' : World, Fr (fun _ => False) (w.alloc (.cells (recC 1 ns tube (.slice bp bn bc)) 29)) w' → w'.rangeAt w.heap.size 4 (jobC ns tube (.slice bp bn bc)).toList) := Lib.hid (fun w' h => job_range (h.get HG.out id))
  have H36 : Hid (∀ w' : World, Calls Try.prog 36 #[.agg (jobC ns tube (.slice bp bn bc))] w' fun e w'' => e = .returned (.bool (blankB ns tube bn)) ∧ Fr (fun _ => False) w' w'') := Lib.hid (fun w' => blank_any ns tube bp bn bc w')
  have H37 : Hid (∀ w' : World, Calls Try.prog 37 #[.agg (jobC ns tube (.slice bp bn bc))] w' fun e w'' => e = .returned (.bool (jobB ns)) ∧ Fr (fun _ => False) w' w'') := Lib.hid (fun w' => changes_any ns tube bp bn bc w')
  have H38 : Hid (∀ w' : World, Calls Try.prog 38 #[.agg (jobC ns tube (.slice bp bn bc))] w' fun e w'' => e = .returned (.bool (lastB ns tube bn)) ∧ Fr (fun _ => False) w' w'') := Lib.hid (fun w' => lasting_any ns tube bp bn bc w')
  have H39 : Hid (∀ w' : World, Calls Try.prog 39 #[.agg (jobC ns tube (.slice bp bn bc))] w' fun e w'' => e = .returned (.bool (shortB ns tube bn)) ∧ Fr (fun _ => False) w' w'') := Lib.hid (fun w' => short_any ns tube bp bn bc w')
  have hi27 : (Try.prog.info? 27).map (·.size) = some (jobC ns tube (.slice bp bn bc)).size := info27s
  unfold recV
  generalize recC 1 ns tube (.slice bp bn bc) = rc at *
  generalize jobC ns tube (.slice bp bn bc) = jc at *
  cases g13 : inB3 (at0 ns 13) 1 1099511627776
  · have HX : Hid (refOk 1 ns tube bn = false) := Lib.hid (by unfold refOk; simp [zB, g13])
    go_enter Try.func20, Try.ntmps20
    go_wp2_with (first | (go_at_call 35; refine (within_anyR _ _ _ _).mono ?_; rintro e w1 ⟨rfl, rfl⟩; first | rw [g13]))
    go_ret
    exact ⟨by rw [HRR.out, HX.out]; rfl, HF.out⟩
  · cases g14 : inB3 (at0 ns 14) 1 1099511627777
    · have HX : Hid (refOk 1 ns tube bn = false) := Lib.hid (by unfold refOk; simp [zB, g13, g14])
      go_enter Try.func20, Try.ntmps20
      go_wp2_with (first | (go_at_call 35; refine (within_anyR _ _ _ _).mono ?_; rintro e w1 ⟨rfl, rfl⟩; first | rw [g13] | rw [g14]))
      go_ret
      exact ⟨by rw [HRR.out, HX.out]; rfl, HF.out⟩
    · cases z15 : (at0 ns 15 == 0)
      · have HX : Hid (refOk 1 ns tube bn = false) := Lib.hid (by unfold refOk; simp [zB, g13, g14, z15])
        go_enter Try.func20, Try.ntmps20
        go_wp2_with (first | (go_at_call 35; refine (within_anyR _ _ _ _).mono ?_; rintro e w1 ⟨rfl, rfl⟩; first | rw [g13] | rw [g14]))
        go_ret
        exact ⟨by rw [HRR.out, HX.out]; rfl, HF.out⟩
      · cases hbl : blankB ns tube bn
        · have HX : Hid (refOk 1 ns tube bn = false) := Lib.hid (by unfold refOk; simp [zB, g13, g14, z15, hbl])
          go_enter Try.func20, Try.ntmps20
          go_wp2_with (first | ((refine load_guard _ _ rfl ?_); refine wpList_load_arr_w (by rfl) 27 _ rfl w.heap.size 4 rfl _ _ (HR.out _ (Fr.refl _ _)) Try.underlying27 rfl hi27 ?_) | (go_at_call 35; refine (within_anyR _ _ _ _).mono ?_; rintro e w1 ⟨rfl, rfl⟩; first | rw [g13] | rw [g14]) | (go_at_call 36; refine (H36.out _).mono ?_; rintro e w2 ⟨rfl, hf2⟩; rw [hbl]; have HF2 := Lib.hid (HF.out.trans hf2 (fun _ _ h => h)); have HR2 := Lib.hid (HR.out _ hf2); clear hf2))
          go_ret
          exact ⟨by rw [HRR.out, HX.out]; rfl, HF2.out⟩
        · have HX : Hid (refOk 1 ns tube bn = true) := Lib.hid (by unfold refOk; simp [zB, g13, g14, z15, hbl])
          go_enter Try.func20, Try.ntmps20
          go_wp2_with (first | ((refine load_guard _ _ rfl ?_); refine wpList_load_arr_w (by rfl) 27 _ rfl w.heap.size 4 rfl _ _ (HR.out _ (Fr.refl _ _)) Try.underlying27 rfl hi27 ?_) | (go_at_call 35; refine (within_anyR _ _ _ _).mono ?_; rintro e w1 ⟨rfl, rfl⟩; first | rw [g13] | rw [g14]) | (go_at_call 36; refine (H36.out _).mono ?_; rintro e w2 ⟨rfl, hf2⟩; rw [hbl]; have HF2 := Lib.hid (HF.out.trans hf2 (fun _ _ h => h)); have HR2 := Lib.hid (HR.out _ hf2); clear hf2))
          go_ret
          exact ⟨by rw [HRR.out, HX.out]; rfl, HF2.out⟩

set_option maxRecDepth 100000 in
set_option maxHeartbeats 2000000 in
theorem refcheck_2 (ns : List Int) (tube : ByteArray) (bp : Option Addr) (bn bc : Nat) (w : World) (r : Int) (HRR : Hid (r = if refOk 2 ns tube bn then 0 else 101)) : Calls Try.prog 20 #[recV 2 ns tube (.slice bp bn bc)] w fun e w' => e = .returned (.int .i64 r) ∧ Fr (fun _ => False) w w' := by
  have HG := Lib.hid (heap_alloc_eq w (.cells (recC 2 ns tube (.slice bp bn bc)) 29))
  have HF := Lib.hid ((Fr.refl (fun _ => False) w).alloc (.cells (recC 2 ns tube (.slice bp bn bc)) 29))
  have c0 : (w.alloc (.cells (recC 2 ns tube (.slice bp bn bc)) 29)).cell? ⟨w.heap.size, 0, none⟩ = some (.int .i64 2) := cell_is HG.out 0 rfl
  have c1 : (w.alloc (.cells (recC 2 ns tube (.slice bp bn bc)) 29)).cell? ⟨w.heap.size, 1, none⟩ = some (.int .i64 (at0 ns 13)) := cell_is HG.out 1 rfl
  have c2 : (w.alloc (.cells (recC 2 ns tube (.slice bp bn bc)) 29)).cell? ⟨w.heap.size, 2, none⟩ = some (.int .i64 (at0 ns 14)) := cell_is HG.out 2 rfl
  have c3 : (w.alloc (.cells (recC 2 ns tube (.slice bp bn bc)) 29)).cell? ⟨w.heap.size, 3, none⟩ = some (.int .i64 (at0 ns 15)) := cell_is HG.out 3 rfl
  have HR : Hid (∀ w' : World, Fr (fun _ => False) (w.alloc (.cells (recC 2 ns tube (.slice bp bn bc)) 29)) w' → w'.rangeAt w.heap.size 4 (jobC ns tube (.slice bp bn bc)).toList) := Lib.hid (fun w' h => job_range (h.get HG.out id))
  have H36 : Hid (∀ w' : World, Calls Try.prog 36 #[.agg (jobC ns tube (.slice bp bn bc))] w' fun e w'' => e = .returned (.bool (blankB ns tube bn)) ∧ Fr (fun _ => False) w' w'') := Lib.hid (fun w' => blank_any ns tube bp bn bc w')
  have H37 : Hid (∀ w' : World, Calls Try.prog 37 #[.agg (jobC ns tube (.slice bp bn bc))] w' fun e w'' => e = .returned (.bool (jobB ns)) ∧ Fr (fun _ => False) w' w'') := Lib.hid (fun w' => changes_any ns tube bp bn bc w')
  have H38 : Hid (∀ w' : World, Calls Try.prog 38 #[.agg (jobC ns tube (.slice bp bn bc))] w' fun e w'' => e = .returned (.bool (lastB ns tube bn)) ∧ Fr (fun _ => False) w' w'') := Lib.hid (fun w' => lasting_any ns tube bp bn bc w')
  have H39 : Hid (∀ w' : World, Calls Try.prog 39 #[.agg (jobC ns tube (.slice bp bn bc))] w' fun e w'' => e = .returned (.bool (shortB ns tube bn)) ∧ Fr (fun _ => False) w' w'') := Lib.hid (fun w' => short_any ns tube bp bn bc w')
  have hi27 : (Try.prog.info? 27).map (·.size) = some (jobC ns tube (.slice bp bn bc)).size := info27s
  unfold recV
  generalize recC 2 ns tube (.slice bp bn bc) = rc at *
  generalize jobC ns tube (.slice bp bn bc) = jc at *
  cases z13 : (at0 ns 13 == 0)
  · have HX : Hid (refOk 2 ns tube bn = false) := Lib.hid (by unfold refOk; simp [zB, z13])
    go_enter Try.func20, Try.ntmps20
    go_wp2_with (fail)
    go_ret
    exact ⟨by rw [HRR.out, HX.out]; rfl, HF.out⟩
  · cases z14 : (at0 ns 14 == 0)
    · have HX : Hid (refOk 2 ns tube bn = false) := Lib.hid (by unfold refOk; simp [zB, z13, z14])
      go_enter Try.func20, Try.ntmps20
      go_wp2_with (fail)
      go_ret
      exact ⟨by rw [HRR.out, HX.out]; rfl, HF.out⟩
    · cases z15 : (at0 ns 15 == 0)
      · have HX : Hid (refOk 2 ns tube bn = false) := Lib.hid (by unfold refOk; simp [zB, z13, z14, z15])
        go_enter Try.func20, Try.ntmps20
        go_wp2_with (fail)
        go_ret
        exact ⟨by rw [HRR.out, HX.out]; rfl, HF.out⟩
      · cases hj : jobB ns
        · have HX : Hid (refOk 2 ns tube bn = false) := Lib.hid (by unfold refOk; simp [zB, z13, z14, z15, hj])
          go_enter Try.func20, Try.ntmps20
          go_wp2_with (first | ((refine load_guard _ _ rfl ?_); refine wpList_load_arr_w (by rfl) 27 _ rfl w.heap.size 4 rfl _ _ (HR.out _ (Fr.refl _ _)) Try.underlying27 rfl hi27 ?_) | (go_at_call 37; refine (H37.out _).mono ?_; rintro e w2 ⟨rfl, hf2⟩; rw [hj]; have HF2 := Lib.hid (HF.out.trans hf2 (fun _ _ h => h)); have HR2 := Lib.hid (HR.out _ hf2); clear hf2))
          go_ret
          exact ⟨by rw [HRR.out, HX.out]; rfl, HF2.out⟩
        · cases hla : lastB ns tube bn
          · have HX : Hid (refOk 2 ns tube bn = false) := Lib.hid (by unfold refOk; simp [zB, z13, z14, z15, hj, hla])
            go_enter Try.func20, Try.ntmps20
            go_wp2_with (first | ((refine load_guard _ _ rfl ?_); refine wpList_load_arr_w (by rfl) 27 _ rfl w.heap.size 4 rfl _ _ HR2.out Try.underlying27 rfl hi27 ?_) | ((refine load_guard _ _ rfl ?_); refine wpList_load_arr_w (by rfl) 27 _ rfl w.heap.size 4 rfl _ _ (HR.out _ (Fr.refl _ _)) Try.underlying27 rfl hi27 ?_) | (go_at_call 37; refine (H37.out _).mono ?_; rintro e w2 ⟨rfl, hf2⟩; rw [hj]; have HF2 := Lib.hid (HF.out.trans hf2 (fun _ _ h => h)); have HR2 := Lib.hid (HR.out _ hf2); clear hf2) | (go_at_call 38; refine (H38.out _).mono ?_; rintro e w3 ⟨rfl, hf3⟩; rw [hla]; have HF3 := Lib.hid (HF2.out.trans hf3 (fun _ _ h => h)); clear hf3))
            go_ret
            exact ⟨by rw [HRR.out, HX.out]; rfl, HF3.out⟩
          · have HX : Hid (refOk 2 ns tube bn = true) := Lib.hid (by unfold refOk; simp [zB, z13, z14, z15, hj, hla])
            go_enter Try.func20, Try.ntmps20
            go_wp2_with (first | ((refine load_guard _ _ rfl ?_); refine wpList_load_arr_w (by rfl) 27 _ rfl w.heap.size 4 rfl _ _ HR2.out Try.underlying27 rfl hi27 ?_) | ((refine load_guard _ _ rfl ?_); refine wpList_load_arr_w (by rfl) 27 _ rfl w.heap.size 4 rfl _ _ (HR.out _ (Fr.refl _ _)) Try.underlying27 rfl hi27 ?_) | (go_at_call 37; refine (H37.out _).mono ?_; rintro e w2 ⟨rfl, hf2⟩; rw [hj]; have HF2 := Lib.hid (HF.out.trans hf2 (fun _ _ h => h)); have HR2 := Lib.hid (HR.out _ hf2); clear hf2) | (go_at_call 38; refine (H38.out _).mono ?_; rintro e w3 ⟨rfl, hf3⟩; rw [hla]; have HF3 := Lib.hid (HF2.out.trans hf3 (fun _ _ h => h)); clear hf3))
            go_ret
            exact ⟨by rw [HRR.out, HX.out]; rfl, HF3.out⟩

set_option maxRecDepth 100000 in
set_option maxHeartbeats 2000000 in
theorem refcheck_3 (ns : List Int) (tube : ByteArray) (bp : Option Addr) (bn bc : Nat) (w : World) (r : Int) (HRR : Hid (r = if refOk 3 ns tube bn then 0 else 101)) : Calls Try.prog 20 #[recV 3 ns tube (.slice bp bn bc)] w fun e w' => e = .returned (.int .i64 r) ∧ Fr (fun _ => False) w w' := by
  have HG := Lib.hid (heap_alloc_eq w (.cells (recC 3 ns tube (.slice bp bn bc)) 29))
  have HF := Lib.hid ((Fr.refl (fun _ => False) w).alloc (.cells (recC 3 ns tube (.slice bp bn bc)) 29))
  have c0 : (w.alloc (.cells (recC 3 ns tube (.slice bp bn bc)) 29)).cell? ⟨w.heap.size, 0, none⟩ = some (.int .i64 3) := cell_is HG.out 0 rfl
  have c1 : (w.alloc (.cells (recC 3 ns tube (.slice bp bn bc)) 29)).cell? ⟨w.heap.size, 1, none⟩ = some (.int .i64 (at0 ns 13)) := cell_is HG.out 1 rfl
  have c2 : (w.alloc (.cells (recC 3 ns tube (.slice bp bn bc)) 29)).cell? ⟨w.heap.size, 2, none⟩ = some (.int .i64 (at0 ns 14)) := cell_is HG.out 2 rfl
  have c3 : (w.alloc (.cells (recC 3 ns tube (.slice bp bn bc)) 29)).cell? ⟨w.heap.size, 3, none⟩ = some (.int .i64 (at0 ns 15)) := cell_is HG.out 3 rfl
  have HR : Hid (∀ w' : World, Fr (fun _ => False) (w.alloc (.cells (recC 3 ns tube (.slice bp bn bc)) 29)) w' → w'.rangeAt w.heap.size 4 (jobC ns tube (.slice bp bn bc)).toList) := Lib.hid (fun w' h => job_range (h.get HG.out id))
  have H36 : Hid (∀ w' : World, Calls Try.prog 36 #[.agg (jobC ns tube (.slice bp bn bc))] w' fun e w'' => e = .returned (.bool (blankB ns tube bn)) ∧ Fr (fun _ => False) w' w'') := Lib.hid (fun w' => blank_any ns tube bp bn bc w')
  have H37 : Hid (∀ w' : World, Calls Try.prog 37 #[.agg (jobC ns tube (.slice bp bn bc))] w' fun e w'' => e = .returned (.bool (jobB ns)) ∧ Fr (fun _ => False) w' w'') := Lib.hid (fun w' => changes_any ns tube bp bn bc w')
  have H38 : Hid (∀ w' : World, Calls Try.prog 38 #[.agg (jobC ns tube (.slice bp bn bc))] w' fun e w'' => e = .returned (.bool (lastB ns tube bn)) ∧ Fr (fun _ => False) w' w'') := Lib.hid (fun w' => lasting_any ns tube bp bn bc w')
  have H39 : Hid (∀ w' : World, Calls Try.prog 39 #[.agg (jobC ns tube (.slice bp bn bc))] w' fun e w'' => e = .returned (.bool (shortB ns tube bn)) ∧ Fr (fun _ => False) w' w'') := Lib.hid (fun w' => short_any ns tube bp bn bc w')
  have hi27 : (Try.prog.info? 27).map (·.size) = some (jobC ns tube (.slice bp bn bc)).size := info27s
  unfold recV
  generalize recC 3 ns tube (.slice bp bn bc) = rc at *
  generalize jobC ns tube (.slice bp bn bc) = jc at *
  cases z13 : (at0 ns 13 == 0)
  · have HX : Hid (refOk 3 ns tube bn = false) := Lib.hid (by unfold refOk; simp [zB, z13])
    go_enter Try.func20, Try.ntmps20
    go_wp2_with (fail)
    go_ret
    exact ⟨by rw [HRR.out, HX.out]; rfl, HF.out⟩
  · cases z14 : (at0 ns 14 == 0)
    · have HX : Hid (refOk 3 ns tube bn = false) := Lib.hid (by unfold refOk; simp [zB, z13, z14])
      go_enter Try.func20, Try.ntmps20
      go_wp2_with (fail)
      go_ret
      exact ⟨by rw [HRR.out, HX.out]; rfl, HF.out⟩
    · cases z15 : (at0 ns 15 == 0)
      · have HX : Hid (refOk 3 ns tube bn = false) := Lib.hid (by unfold refOk; simp [zB, z13, z14, z15])
        go_enter Try.func20, Try.ntmps20
        go_wp2_with (fail)
        go_ret
        exact ⟨by rw [HRR.out, HX.out]; rfl, HF.out⟩
      · cases hj : jobB ns
        · have HX : Hid (refOk 3 ns tube bn = false) := Lib.hid (by unfold refOk; simp [zB, z13, z14, z15, hj])
          go_enter Try.func20, Try.ntmps20
          go_wp2_with (first | ((refine load_guard _ _ rfl ?_); refine wpList_load_arr_w (by rfl) 27 _ rfl w.heap.size 4 rfl _ _ (HR.out _ (Fr.refl _ _)) Try.underlying27 rfl hi27 ?_) | (go_at_call 37; refine (H37.out _).mono ?_; rintro e w2 ⟨rfl, hf2⟩; rw [hj]; have HF2 := Lib.hid (HF.out.trans hf2 (fun _ _ h => h)); have HR2 := Lib.hid (HR.out _ hf2); clear hf2))
          go_ret
          exact ⟨by rw [HRR.out, HX.out]; rfl, HF2.out⟩
        · cases hsh : shortB ns tube bn
          · have HX : Hid (refOk 3 ns tube bn = false) := Lib.hid (by unfold refOk; simp [zB, z13, z14, z15, hj, hsh])
            go_enter Try.func20, Try.ntmps20
            go_wp2_with (first | ((refine load_guard _ _ rfl ?_); refine wpList_load_arr_w (by rfl) 27 _ rfl w.heap.size 4 rfl _ _ HR2.out Try.underlying27 rfl hi27 ?_) | ((refine load_guard _ _ rfl ?_); refine wpList_load_arr_w (by rfl) 27 _ rfl w.heap.size 4 rfl _ _ (HR.out _ (Fr.refl _ _)) Try.underlying27 rfl hi27 ?_) | (go_at_call 37; refine (H37.out _).mono ?_; rintro e w2 ⟨rfl, hf2⟩; rw [hj]; have HF2 := Lib.hid (HF.out.trans hf2 (fun _ _ h => h)); have HR2 := Lib.hid (HR.out _ hf2); clear hf2) | (go_at_call 39; refine (H39.out _).mono ?_; rintro e w3 ⟨rfl, hf3⟩; rw [hsh]; have HF3 := Lib.hid (HF2.out.trans hf3 (fun _ _ h => h)); clear hf3))
            go_ret
            exact ⟨by rw [HRR.out, HX.out]; rfl, HF3.out⟩
          · have HX : Hid (refOk 3 ns tube bn = true) := Lib.hid (by unfold refOk; simp [zB, z13, z14, z15, hj, hsh])
            go_enter Try.func20, Try.ntmps20
            go_wp2_with (first | ((refine load_guard _ _ rfl ?_); refine wpList_load_arr_w (by rfl) 27 _ rfl w.heap.size 4 rfl _ _ HR2.out Try.underlying27 rfl hi27 ?_) | ((refine load_guard _ _ rfl ?_); refine wpList_load_arr_w (by rfl) 27 _ rfl w.heap.size 4 rfl _ _ (HR.out _ (Fr.refl _ _)) Try.underlying27 rfl hi27 ?_) | (go_at_call 37; refine (H37.out _).mono ?_; rintro e w2 ⟨rfl, hf2⟩; rw [hj]; have HF2 := Lib.hid (HF.out.trans hf2 (fun _ _ h => h)); have HR2 := Lib.hid (HR.out _ hf2); clear hf2) | (go_at_call 39; refine (H39.out _).mono ?_; rintro e w3 ⟨rfl, hf3⟩; rw [hsh]; have HF3 := Lib.hid (HF2.out.trans hf3 (fun _ _ h => h)); clear hf3))
            go_ret
            exact ⟨by rw [HRR.out, HX.out]; rfl, HF3.out⟩

set_option maxRecDepth 100000 in
set_option maxHeartbeats 2000000 in
theorem refcheck_4 (ns : List Int) (tube : ByteArray) (bp : Option Addr) (bn bc : Nat) (w : World) (r : Int) (HRR : Hid (r = if refOk 4 ns tube bn then 0 else 101)) : Calls Try.prog 20 #[recV 4 ns tube (.slice bp bn bc)] w fun e w' => e = .returned (.int .i64 r) ∧ Fr (fun _ => False) w w' := by
  have HG := Lib.hid (heap_alloc_eq w (.cells (recC 4 ns tube (.slice bp bn bc)) 29))
  have HF := Lib.hid ((Fr.refl (fun _ => False) w).alloc (.cells (recC 4 ns tube (.slice bp bn bc)) 29))
  have c0 : (w.alloc (.cells (recC 4 ns tube (.slice bp bn bc)) 29)).cell? ⟨w.heap.size, 0, none⟩ = some (.int .i64 4) := cell_is HG.out 0 rfl
  have c1 : (w.alloc (.cells (recC 4 ns tube (.slice bp bn bc)) 29)).cell? ⟨w.heap.size, 1, none⟩ = some (.int .i64 (at0 ns 13)) := cell_is HG.out 1 rfl
  have c2 : (w.alloc (.cells (recC 4 ns tube (.slice bp bn bc)) 29)).cell? ⟨w.heap.size, 2, none⟩ = some (.int .i64 (at0 ns 14)) := cell_is HG.out 2 rfl
  have c3 : (w.alloc (.cells (recC 4 ns tube (.slice bp bn bc)) 29)).cell? ⟨w.heap.size, 3, none⟩ = some (.int .i64 (at0 ns 15)) := cell_is HG.out 3 rfl
  have HR : Hid (∀ w' : World, Fr (fun _ => False) (w.alloc (.cells (recC 4 ns tube (.slice bp bn bc)) 29)) w' → w'.rangeAt w.heap.size 4 (jobC ns tube (.slice bp bn bc)).toList) := Lib.hid (fun w' h => job_range (h.get HG.out id))
  have H36 : Hid (∀ w' : World, Calls Try.prog 36 #[.agg (jobC ns tube (.slice bp bn bc))] w' fun e w'' => e = .returned (.bool (blankB ns tube bn)) ∧ Fr (fun _ => False) w' w'') := Lib.hid (fun w' => blank_any ns tube bp bn bc w')
  have H37 : Hid (∀ w' : World, Calls Try.prog 37 #[.agg (jobC ns tube (.slice bp bn bc))] w' fun e w'' => e = .returned (.bool (jobB ns)) ∧ Fr (fun _ => False) w' w'') := Lib.hid (fun w' => changes_any ns tube bp bn bc w')
  have H38 : Hid (∀ w' : World, Calls Try.prog 38 #[.agg (jobC ns tube (.slice bp bn bc))] w' fun e w'' => e = .returned (.bool (lastB ns tube bn)) ∧ Fr (fun _ => False) w' w'') := Lib.hid (fun w' => lasting_any ns tube bp bn bc w')
  have H39 : Hid (∀ w' : World, Calls Try.prog 39 #[.agg (jobC ns tube (.slice bp bn bc))] w' fun e w'' => e = .returned (.bool (shortB ns tube bn)) ∧ Fr (fun _ => False) w' w'') := Lib.hid (fun w' => short_any ns tube bp bn bc w')
  have hi27 : (Try.prog.info? 27).map (·.size) = some (jobC ns tube (.slice bp bn bc)).size := info27s
  unfold recV
  generalize recC 4 ns tube (.slice bp bn bc) = rc at *
  generalize jobC ns tube (.slice bp bn bc) = jc at *
  cases z13 : (at0 ns 13 == 0)
  · have HX : Hid (refOk 4 ns tube bn = false) := Lib.hid (by unfold refOk; simp [zB, z13])
    go_enter Try.func20, Try.ntmps20
    go_wp2_with (fail)
    go_ret
    exact ⟨by rw [HRR.out, HX.out]; rfl, HF.out⟩
  · cases z14 : (at0 ns 14 == 0)
    · have HX : Hid (refOk 4 ns tube bn = false) := Lib.hid (by unfold refOk; simp [zB, z13, z14])
      go_enter Try.func20, Try.ntmps20
      go_wp2_with (fail)
      go_ret
      exact ⟨by rw [HRR.out, HX.out]; rfl, HF.out⟩
    · cases g15 : inB3 (at0 ns 15) 1 1099511627776
      · have HX : Hid (refOk 4 ns tube bn = false) := Lib.hid (by unfold refOk; simp [zB, z13, z14, g15])
        go_enter Try.func20, Try.ntmps20
        go_wp2_with (first | (go_at_call 35; refine (within_anyR _ _ _ _).mono ?_; rintro e w1 ⟨rfl, rfl⟩; first | rw [g15]))
        go_ret
        exact ⟨by rw [HRR.out, HX.out]; rfl, HF.out⟩
      · cases hbl : blankB ns tube bn
        · have HX : Hid (refOk 4 ns tube bn = false) := Lib.hid (by unfold refOk; simp [zB, z13, z14, g15, hbl])
          go_enter Try.func20, Try.ntmps20
          go_wp2_with (first | ((refine load_guard _ _ rfl ?_); refine wpList_load_arr_w (by rfl) 27 _ rfl w.heap.size 4 rfl _ _ (HR.out _ (Fr.refl _ _)) Try.underlying27 rfl hi27 ?_) | (go_at_call 35; refine (within_anyR _ _ _ _).mono ?_; rintro e w1 ⟨rfl, rfl⟩; first | rw [g15]) | (go_at_call 36; refine (H36.out _).mono ?_; rintro e w2 ⟨rfl, hf2⟩; rw [hbl]; have HF2 := Lib.hid (HF.out.trans hf2 (fun _ _ h => h)); have HR2 := Lib.hid (HR.out _ hf2); clear hf2))
          go_ret
          exact ⟨by rw [HRR.out, HX.out]; rfl, HF2.out⟩
        · have HX : Hid (refOk 4 ns tube bn = true) := Lib.hid (by unfold refOk; simp [zB, z13, z14, g15, hbl])
          go_enter Try.func20, Try.ntmps20
          go_wp2_with (first | ((refine load_guard _ _ rfl ?_); refine wpList_load_arr_w (by rfl) 27 _ rfl w.heap.size 4 rfl _ _ (HR.out _ (Fr.refl _ _)) Try.underlying27 rfl hi27 ?_) | (go_at_call 35; refine (within_anyR _ _ _ _).mono ?_; rintro e w1 ⟨rfl, rfl⟩; first | rw [g15]) | (go_at_call 36; refine (H36.out _).mono ?_; rintro e w2 ⟨rfl, hf2⟩; rw [hbl]; have HF2 := Lib.hid (HF.out.trans hf2 (fun _ _ h => h)); have HR2 := Lib.hid (HR.out _ hf2); clear hf2))
          go_ret
          exact ⟨by rw [HRR.out, HX.out]; rfl, HF2.out⟩

set_option maxRecDepth 100000 in
set_option maxHeartbeats 2000000 in
theorem refcheck_no (k : Int) (ns : List Int) (tube : ByteArray) (bp : Option Addr) (bn bc : Nat) (w : World) (hk : ¬ Kind k) : Calls Try.prog 20 #[recV k ns tube (.slice bp bn bc)] w fun e w' => e = .returned (.int .i64 100) ∧ Fr (fun _ => False) w w' := by
  have HG := Lib.hid (heap_alloc_eq w (.cells (recC k ns tube (.slice bp bn bc)) 29))
  have HF := Lib.hid ((Fr.refl (fun _ => False) w).alloc (.cells (recC k ns tube (.slice bp bn bc)) 29))
  have c0 : (w.alloc (.cells (recC k ns tube (.slice bp bn bc)) 29)).cell? ⟨w.heap.size, 0, none⟩ = some (.int .i64 k) := cell_is HG.out 0 rfl
  unfold Kind at hk
  have h1 : (k == 1) = false := by simp; omega
  have h2 : (k == 2) = false := by simp; omega
  have h3 : (k == 3) = false := by simp; omega
  have h4 : (k == 4) = false := by simp; omega
  clear hk
  unfold recV
  generalize recC k ns tube (.slice bp bn bc) = rc at *
  go_enter Try.func20, Try.ntmps20
  go_wp2_with (fail)
  go_ret
  exact ⟨rfl, HF.out⟩

theorem check_anyR (k : Int) (ns : List Int) (tube : ByteArray) (bp : Option Addr) (bn bc : Nat) (w : World) (hl : ns.length = 16) :
    Calls Try.prog 20 #[recV k ns tube (.slice bp bn bc)] w fun e w' => e = .returned (.int .i64 (checkE k ns tube bn)) ∧ Fr (fun _ => False) w w' := by
  unfold checkE
  by_cases hk : Kind k
  · rw [if_pos hk, ref_ok hk hl]
    rcases hk with rfl | rfl | rfl | rfl
    · exact refcheck_1 ns tube bp bn bc w _ (Lib.hid rfl)
    · exact refcheck_2 ns tube bp bn bc w _ (Lib.hid rfl)
    · exact refcheck_3 ns tube bp bn bc w _ (Lib.hid rfl)
    · exact refcheck_4 ns tube bp bn bc w _ (Lib.hid rfl)
  · rw [if_neg hk]
    exact refcheck_no k ns tube bp bn bc w hk

end Go.Proofs.Ytpecbhimnpjkdaa
