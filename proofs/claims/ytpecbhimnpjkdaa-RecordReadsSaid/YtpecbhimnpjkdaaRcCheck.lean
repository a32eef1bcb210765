/- record.Check, walked. -/
import Derived.Test.YtpecbhimnpjkdaaRcMay
import Derived.Test.YtpecbhimnpjkdaaRcValidA
import Derived.Test.YtpecbhimnpjkdaaRcEq
import Derived.Lib.SliceRun
import Derived.Deep.RegionHeld3
import Derived.Deep.MidRow
namespace Go.Proofs.Ytpecbhimnpjkdaa
open Go.RowKit Go.Sb

def textsB (k : Int) (tube : ByteArray) (bn : Nat) : Bool := if k = 2 then validB tube && decide ((bn : Int) ≤ 65535) else tube.toList == [] && (bn : Int) == 0
def okB (k : Int) (ns : List Int) (tube : ByteArray) (bn : Nat) : Bool := (ns == onlyL ns (ofList k)) && (mayB ns k && textsB k tube bn)
instance (k : Int) : Decidable (Kind k) := by unfold Kind; infer_instance
def checkE (k : Int) (ns : List Int) (tube : ByteArray) (bn : Nat) : Int := if Kind k then (if okB k ns tube bn then 0 else 101) else 100

theorem ofList_row {k : Int} (hk : Kind k) (w : World) : OfRow (w.alloc (.cells ((ofList k).map natV).toArray 3)) (ofList k) (.slice (some ⟨w.heap.size, 0, none⟩) (ofList k).length (ofList k).length) := by
  refine ⟨_, rfl, heap_alloc_eq _ _, ?_⟩
  rcases hk with rfl | rfl | rfl | rfl <;> decide

theorem OfRow.fr {w w' : World} {l : List Nat} {v : Value} (h : OfRow w l v) (hf : Fr (fun _ => False) w w') : OfRow w' l v := by
  obtain ⟨bl, rfl, h1, h2⟩ := h
  exact ⟨bl, rfl, hf.get h1 id, h2⟩

theorem tubeE (tube : ByteArray) : (tube.toList == []) = tube.toList.isEmpty := by cases tube.toList <;> rfl

theorem nil51 (a : Option Addr) (n c : Nat) (w : World) : (binOp .eql 51 (.slice a n c) (.slice none 0 0)).run Try.prog w = .ok (.bool a.isNone) w :=
  Lib.run_eql_slice_nil w 51 3 a n c 0 0 Try.underlying51

theorem info29s : (Try.prog.info? 29).map (·.size) = some 19 := by kernel_rfl

set_option maxRecDepth 100000 in
set_option maxHeartbeats 2000000 in
theorem check_no (k : Int) (ns : List Int) (tube : ByteArray) (bp : Option Addr) (bn bc : Nat) (w : World) (hk : ¬ Kind k) :
    Calls Try.prog 14 #[recV k ns tube (.slice bp bn bc)] w fun e w' => e = .returned (.int .i64 100) ∧ Fr (fun _ => False) w w' := by
  have hg := heap_alloc_eq w (.cells (recC k ns tube (.slice bp bn bc)) 29)
  have c0 : (w.alloc (.cells (recC k ns tube (.slice bp bn bc)) 29)).cell? ⟨w.heap.size, 0, none⟩ = some (.int .i64 k) := cell_is hg 0 rfl
  have hsz : (recC k ns tube (.slice bp bn bc)).size = 19 := rfl
  unfold recV
  have hnil := nil51
  generalize recC k ns tube (.slice bp bn bc) = rc at *
  go_enter Try.func14, Try.ntmps14
  go_wp2_with (go_at_call 26; refine (of_no k _ hk).mono ?_; rintro e w1 ⟨rfl, rfl⟩)
  go_ret
  exact ⟨rfl, (Fr.refl _ w).alloc _⟩

set_option maxRecDepth 100000 in
set_option maxHeartbeats 4000000 in
theorem check_A (k : Int) (ns : List Int) (tube : ByteArray) (bp : Option Addr) (bn bc : Nat) (w : World) (hl : ns.length = 16) (hk : Kind k) (ht : tube.toList.isEmpty = false) (h2 : (k == 2) = false) (r : Int) (HR : Hid (r = if okB k ns tube bn then 0 else 101)) :
    Calls Try.prog 14 #[recV k ns tube (.slice bp bn bc)] w fun e w' => e = .returned (.int .i64 r) ∧ Fr (fun _ => False) w w' := by
  have hg := heap_alloc_eq w (.cells (recC k ns tube (.slice bp bn bc)) 29)
  have c0 : (w.alloc (.cells (recC k ns tube (.slice bp bn bc)) 29)).cell? ⟨w.heap.size, 0, none⟩ = some (.int .i64 k) := cell_is hg 0 rfl
  have hsz : (recC k ns tube (.slice bp bn bc)).size = 19 := rfl
  have hi29 : (Try.prog.info? 29).map (·.size) = some (recC k ns tube (.slice bp bn bc)).size := info29s
  have HRV : Hid (Value.agg (recC k ns tube (.slice bp bn bc)) = recV k ns tube (.slice bp bn bc)) := Lib.hid rfl
  have hcell : Hid (∀ w' : World, w'.heap[w.heap.size]? = some (.cells (recC k ns tube (.slice bp bn bc)) 29 (0, 0)) → w'.cell? ⟨w.heap.size, 0, none⟩ = some (.int .i64 k) ∧ w'.cell? ⟨w.heap.size, 17, none⟩ = some (.string tube) ∧ w'.cell? ⟨w.heap.size, 18, none⟩ = some (.slice bp bn bc)) := Lib.hid (fun w' h => ⟨cell_is h 0 rfl, cell_is h 17 rfl, cell_is h 18 rfl⟩)
  have HG := Lib.hid hg
  have HNUM : Hid (∀ w' : World, Calls Try.prog 29 #[.agg (recC k ns tube (.slice bp bn bc))] w' fun e w'' => e = .returned (.agg (ns.map iv).toArray) ∧ Fr (fun _ => False) w' w'') := Lib.hid (fun w' => numbersOf_any k ns tube bp bn bc w' hl)
  have hnil := nil51
  have HVA := Lib.hid (fun w' : World => valid_any tube w')
  have hf0 : Fr (fun _ => False) w (w.alloc (.cells (recC k ns tube (.slice bp bn bc)) 29)) := (Fr.refl _ w).alloc _
  have HF0 := Lib.hid hf0
  clear hg hf0
  unfold recV
  generalize recC k ns tube (.slice bp bn bc) = rc at *
  go_enter Try.func14, Try.ntmps14
  go_wp2_with (fail)
  refine (of_yes k _ hk).mono ?_
  rintro e w1 ⟨rfl, rfl⟩
  have HROW := Lib.hid (ofList_row hk (w.alloc (.cells rc 29)))
  have hf1 : Fr (fun _ => False) (w.alloc (.cells rc 29)) ((w.alloc (.cells rc 29)).alloc (.cells ((ofList k).map natV).toArray 3)) := (Fr.refl _ _).alloc _
  have HG1 := Lib.hid (hf1.get HG.out id)
  have HF1 := Lib.hid (HF0.out.trans hf1 (fun _ _ h => h))
  have hbl : w.heap.size < ((w.alloc (.cells rc 29)).alloc (.cells ((ofList k).map natV).toArray 3)).heap.size := by simp; omega
  clear hf1 c0 HG HF0
  generalize ((w.alloc (.cells rc 29)).alloc (.cells ((ofList k).map natV).toArray 3)) = w1 at *
  generalize hll : (ofList k).length = ll at *
  generalize (w.alloc (.cells rc 29)).heap.size = b3 at *
  have HLL := Lib.hid hll
  clear hll
  obtain ⟨c0, c17, c18⟩ := hcell.out w1 HG1.out
  go_wp2_with ((refine load_guard _ _ rfl ?_); refine wpList_load_row rfl 29 _ rfl w.heap.size rfl 29 _ (0, 0) _ HG1.out Try.underlying29 rfl hi29 ?_)
  refine (HNUM.out w1).mono ?_
  rintro e w2 ⟨rfl, hf2⟩
  have HF2 := Lib.hid (HF1.out.trans hf2 (fun _ _ h => h))
  have HG2 := Lib.hid (hf2.get HG1.out id)
  have HROW2 := Lib.hid (HROW.out.fr hf2)
  have hlt2 : w.heap.size < w2.heap.size := lt_of_heap HG2.out
  clear hf2 c0 c17 c18 HG1 HROW HF1
  have hi := info54o hl
  have hs16 : (ns.map iv).toArray.size = 16 := by simp [hl]
  go_wp2_with (first | ((refine store_guard _ _ _ _ rfl ?_); refine wpList_store_agg _ rfl _ _ 54 rfl w2.heap.size 54 _ (ns.map iv).toArray rfl rfl hi (heap_alloc_eq _ _) hs16.symm (iv_one ns) ?_; intro w3 hw3 hf3; have hf23 : Fr (fun _ => False) w2 w3 := ((Fr.refl _ w2).alloc _).trans hf3 (fun i hi h => absurd hi (by omega)); have HF3 := Lib.hid (HF2.out.trans hf23 (fun _ _ h => h)); have hg3 := hf23.get HG2.out id; have HG3 := Lib.hid hg3; obtain ⟨c0, c17, c18⟩ := hcell.out w3 hg3; have HROW3 := Lib.hid (HROW2.out.fr hf23); have HW3 := Lib.hid hw3; clear hw3 hf3 hf23 hg3 HF2 HG2 HROW2; generalize hq4 : w2.heap.size = b4 at *) | fail)
  have heq := eq54 ns (onlyL ns (ofList k)) hl (onlyTo_length _ _ _)
  have hld : ∀ w' : World, Fr (fun _ => False) w3 w' → w'.rangeAt b4 0 (ns.map iv) := fun w' h j v hv => by
    rw [Nat.zero_add]
    exact cell_is (h.get HW3.out id) j (by simpa using hv)
  have hiL : (Try.prog.info? 54).map (·.size) = some (ns.map iv).length := by rw [info54s]; simp [hl]
  refine wp_region_held_drew (S := fun w' => Fr (fun _ => False) w3 w') (by kernel_rfl) ((Fr.refl _ _).drew) (fun hS1 => ?_)
  refine wpAnyH_take (i := 0) (v := (.agg (ns.map iv).toArray)) rfl (by kernel_rfl) (by kernel_rfl) (by kernel_rfl) (fun _ _ _ h => h) (yieldsIf_load_mid (by rfl) 54 _ rfl b4 0 rfl (ns.map iv) _ (fun w' hS => hld w' hS) Try.underlying54 rfl hiL) hS1 ?_
  try simp only [Act.put, List.getElem_toArray, List.getElem_cons_zero, List.setIfInBounds_toArray, List.set_cons_zero, List.set_cons_succ]
  refine wpAnyH_take (i := 1) (v := (.agg (ns.map iv).toArray)) rfl (by kernel_rfl) (by kernel_rfl) (by kernel_rfl) (fun _ _ _ h => h) (yieldsIf_load_mid (by rfl) 54 _ rfl b4 0 rfl (ns.map iv) _ (fun w' hS => hld w' hS) Try.underlying54 rfl hiL) hS1 ?_
  try simp only [Act.put, List.getElem_toArray, List.getElem_cons_zero, List.getElem_cons_succ, List.setIfInBounds_toArray, List.set_cons_zero, List.set_cons_succ]
  refine wpAnyH_take (i := 2) (v := (.slice (some ⟨b3, 0, none⟩) ll ll)) rfl (by kernel_rfl) (by kernel_rfl) (by kernel_rfl) (fun _ _ _ h => h) (Or.inl ⟨by rfl, fun w' hS => by go_simp⟩) hS1 ?_
  try simp only [Act.put, List.getElem_toArray, List.getElem_cons_zero, List.getElem_cons_succ, List.setIfInBounds_toArray, List.set_cons_zero, List.set_cons_succ]
  refine wpAnyH_ready (rs := [3]) (by kernel_rfl) (by simp) ?_
  refine AllReadyH.cons rfl (fun K hK => ?_) AllReadyH.nil
  rw [if_pos (by rfl)]
  go_simp
  refine (only_any ns (ofList k) _ w3.drew hl (HROW3.out.fr hS1)).mono ?_
  rintro e w5 ⟨rfl, hf⟩
  refine hK.out _ _ (Fr.trans hS1 hf (fun _ _ h => h)) (fun hS2 => ?_)
  clear hK K hf
  try simp only [Act.put, List.getElem_toArray, List.getElem_cons_zero, List.getElem_cons_succ, List.setIfInBounds_toArray, List.set_cons_zero, List.set_cons_succ]
  cases hb : (ns == onlyL ns (ofList k))
  · rw [hb] at heq
    have he : okB k ns tube bn = false := by unfold okB; rw [hb]; rfl
    have HE := Lib.hid he
    clear he
    refine wpAnyH_take (i := 4) (v := (.bool true)) rfl (by kernel_rfl) (by kernel_rfl) (by kernel_rfl) (fun _ _ _ h => h) (Or.inl ⟨by rfl, fun w' hS => by go_simp⟩) hS2 ?_
    try simp only [Act.put, List.getElem_toArray, List.getElem_cons_zero, List.getElem_cons_succ, List.setIfInBounds_toArray, List.set_cons_zero, List.set_cons_succ]
    refine wpAnyH_take (i := 5) (v := (.bool true)) rfl (by kernel_rfl) (by kernel_rfl) (by kernel_rfl) (fun _ _ _ h => h) (Or.inl ⟨by rfl, fun w' hS => by go_simp⟩) hS2 ?_
    try simp only [Act.put, List.getElem_toArray, List.getElem_cons_zero, List.getElem_cons_succ, List.setIfInBounds_toArray, List.set_cons_zero, List.set_cons_succ]
    refine wpAnyH_take (i := 6) (v := undef) rfl (by kernel_rfl) (by kernel_rfl) (by kernel_rfl) (fun _ _ _ h => h) (Or.inr ⟨by rfl, rfl⟩) hS2 ?_
    try simp only [Act.put, List.getElem_toArray, List.getElem_cons_zero, List.getElem_cons_succ, List.setIfInBounds_toArray, List.set_cons_zero, List.set_cons_succ]
    refine wpAnyH_take (i := 7) (v := undef) rfl (by kernel_rfl) (by kernel_rfl) (by kernel_rfl) (fun _ _ _ h => h) (Or.inr ⟨by rfl, rfl⟩) hS2 ?_
    try simp only [Act.put, List.getElem_toArray, List.getElem_cons_zero, List.getElem_cons_succ, List.setIfInBounds_toArray, List.set_cons_zero, List.set_cons_succ]
    refine wpAnyH_take (i := 8) (v := undef) rfl (by kernel_rfl) (by kernel_rfl) (by kernel_rfl) (fun _ _ _ h => h) (Or.inr ⟨by rfl, rfl⟩) hS2 ?_
    try simp only [Act.put, List.getElem_toArray, List.getElem_cons_zero, List.getElem_cons_succ, List.setIfInBounds_toArray, List.set_cons_zero, List.set_cons_succ]
    refine wpAnyH_ready (rs := [9]) (by kernel_rfl) (by simp) ?_
    refine AllReadyH.cons rfl (fun K hK => ?_) AllReadyH.nil
    rw [if_neg (by exact fun h => nomatch (show false = true from h))]
    refine hK.out _ _ hS2 (fun _ => ?_)
    clear hK K
    try simp only [Act.put, List.getElem_toArray, List.getElem_cons_zero, List.getElem_cons_succ, List.setIfInBounds_toArray, List.set_cons_zero, List.set_cons_succ]
    refine wpAnyH_take (i := 10) (v := undef) rfl (by kernel_rfl) (by kernel_rfl) (by kernel_rfl) (fun _ _ _ h => h) (Or.inr ⟨by rfl, rfl⟩) hS2 ?_
    try simp only [Act.put, List.getElem_toArray, List.getElem_cons_zero, List.getElem_cons_succ, List.setIfInBounds_toArray, List.set_cons_zero, List.set_cons_succ]
    refine wpAnyH_take (i := 11) (v := (.bool true)) rfl (by kernel_rfl) (by kernel_rfl) (by kernel_rfl) (fun _ _ _ h => h) (Or.inl ⟨by rfl, fun w' hS => by go_simp⟩) hS2 ?_
    try simp only [Act.put, List.getElem_toArray, List.getElem_cons_zero, List.getElem_cons_succ, List.setIfInBounds_toArray, List.set_cons_zero, List.set_cons_succ]
    refine wpAnyH_take (i := 12) (v := (.bool true)) rfl (by kernel_rfl) (by kernel_rfl) (by kernel_rfl) (fun _ _ _ h => h) (Or.inl ⟨by rfl, fun w' hS => by go_simp⟩) hS2 ?_
    try simp only [Act.put, List.getElem_toArray, List.getElem_cons_zero, List.getElem_cons_succ, List.setIfInBounds_toArray, List.set_cons_zero, List.set_cons_succ]
    refine wpAnyH_take (i := 13) (v := undef) rfl (by kernel_rfl) (by kernel_rfl) (by kernel_rfl) (fun _ _ _ h => h) (Or.inr ⟨by rfl, rfl⟩) hS2 ?_
    try simp only [Act.put, List.getElem_toArray, List.getElem_cons_zero, List.getElem_cons_succ, List.setIfInBounds_toArray, List.set_cons_zero, List.set_cons_succ]
    refine wpAnyH_take (i := 14) (v := undef) rfl (by kernel_rfl) (by kernel_rfl) (by kernel_rfl) (fun _ _ _ h => h) (Or.inr ⟨by rfl, rfl⟩) hS2 ?_
    try simp only [Act.put, List.getElem_toArray, List.getElem_cons_zero, List.getElem_cons_succ, List.setIfInBounds_toArray, List.set_cons_zero, List.set_cons_succ]
    refine wpAnyH_take (i := 15) (v := (.bool true)) rfl (by kernel_rfl) (by kernel_rfl) (by kernel_rfl) (fun _ _ _ h => h) (Or.inl ⟨by rfl, fun w' hS => by go_simp⟩) hS2 ?_
    try simp only [Act.put, List.getElem_toArray, List.getElem_cons_zero, List.getElem_cons_succ, List.setIfInBounds_toArray, List.set_cons_zero, List.set_cons_succ]
    have hS9 := hS2
    refine wpAnyH_done (by kernel_rfl) ?_ _
    go_wp2_with (fail)
    go_ret
    exact ⟨by rw [HR.out, HE.out]; rfl, HF3.out.trans hS9 (fun _ _ h => h)⟩
  · rw [hb] at heq
    refine wpAnyH_take (i := 4) (v := (.bool false)) rfl (by kernel_rfl) (by kernel_rfl) (by kernel_rfl) (fun _ _ _ h => h) (Or.inl ⟨by rfl, fun w' hS => by go_simp⟩) hS2 ?_
    try simp only [Act.put, List.getElem_toArray, List.getElem_cons_zero, List.getElem_cons_succ, List.setIfInBounds_toArray, List.set_cons_zero, List.set_cons_succ]
    refine wpAnyH_take (i := 5) (v := (.bool false)) rfl (by kernel_rfl) (by kernel_rfl) (by kernel_rfl) (fun _ _ _ h => h) (Or.inl ⟨by rfl, fun w' hS => by go_simp⟩) hS2 ?_
    try simp only [Act.put, List.getElem_toArray, List.getElem_cons_zero, List.getElem_cons_succ, List.setIfInBounds_toArray, List.set_cons_zero, List.set_cons_succ]
    refine wpAnyH_take (i := 6) (v := (.agg (ns.map iv).toArray)) rfl (by kernel_rfl) (by kernel_rfl) (by kernel_rfl) (fun _ _ _ h => h) (yieldsIf_load_mid (by rfl) 54 _ rfl b4 0 rfl (ns.map iv) _ (fun w' hS => hld w' hS) Try.underlying54 rfl hiL) hS2 ?_
    try simp only [Act.put, List.getElem_toArray, List.getElem_cons_zero, List.getElem_cons_succ, List.setIfInBounds_toArray, List.set_cons_zero, List.set_cons_succ]
    refine wpAnyH_take (i := 7) (v := (.pointer (some ⟨w.heap.size, 0, none⟩))) rfl (by kernel_rfl) (by kernel_rfl) (by kernel_rfl) (fun _ _ _ h => h) (Or.inl ⟨by rfl, fun w' hS => by go_simp⟩) hS2 ?_
    try simp only [Act.put, List.getElem_toArray, List.getElem_cons_zero, List.getElem_cons_succ, List.setIfInBounds_toArray, List.set_cons_zero, List.set_cons_succ]
    refine wpAnyH_take (i := 8) (v := (.int .i64 k)) rfl (by kernel_rfl) (by kernel_rfl) (by kernel_rfl) (fun _ _ _ h => h) (Or.inl ⟨by rfl, fun w' hS => by have c := cell_fr' hS c0; go_simp⟩) hS2 ?_
    try simp only [Act.put, List.getElem_toArray, List.getElem_cons_zero, List.getElem_cons_succ, List.setIfInBounds_toArray, List.set_cons_zero, List.set_cons_succ]
    refine wpAnyH_ready (rs := [9]) (by kernel_rfl) (by simp) ?_
    refine AllReadyH.cons rfl (fun K hK => ?_) AllReadyH.nil
    rw [if_pos (by rfl)]
    go_simp
    refine (mayN_any ns k w5 hl hk).mono ?_
    rintro e w6 ⟨rfl, hf⟩
    refine hK.out _ _ (Fr.trans hS2 hf (fun _ _ h => h)) (fun hS3 => ?_)
    clear hK K hf
    try simp only [Act.put, List.getElem_toArray, List.getElem_cons_zero, List.getElem_cons_succ, List.setIfInBounds_toArray, List.set_cons_zero, List.set_cons_succ]
    cases hm : mayB ns k
    · have he : okB k ns tube bn = false := by unfold okB; rw [hb, hm]; rfl
      have HE := Lib.hid he
      clear he
      refine wpAnyH_take (i := 10) (v := (.bool true)) rfl (by kernel_rfl) (by kernel_rfl) (by kernel_rfl) (fun _ _ _ h => h) (Or.inl ⟨by rfl, fun w' hS => by go_simp⟩) hS3 ?_
      try simp only [Act.put, List.getElem_toArray, List.getElem_cons_zero, List.getElem_cons_succ, List.setIfInBounds_toArray, List.set_cons_zero, List.set_cons_succ]
      refine wpAnyH_take (i := 11) (v := (.bool true)) rfl (by kernel_rfl) (by kernel_rfl) (by kernel_rfl) (fun _ _ _ h => h) (Or.inl ⟨by rfl, fun w' hS => by go_simp⟩) hS3 ?_
      try simp only [Act.put, List.getElem_toArray, List.getElem_cons_zero, List.getElem_cons_succ, List.setIfInBounds_toArray, List.set_cons_zero, List.set_cons_succ]
      refine wpAnyH_take (i := 12) (v := (.bool true)) rfl (by kernel_rfl) (by kernel_rfl) (by kernel_rfl) (fun _ _ _ h => h) (Or.inl ⟨by rfl, fun w' hS => by go_simp⟩) hS3 ?_
      try simp only [Act.put, List.getElem_toArray, List.getElem_cons_zero, List.getElem_cons_succ, List.setIfInBounds_toArray, List.set_cons_zero, List.set_cons_succ]
      refine wpAnyH_take (i := 13) (v := undef) rfl (by kernel_rfl) (by kernel_rfl) (by kernel_rfl) (fun _ _ _ h => h) (Or.inr ⟨by rfl, rfl⟩) hS3 ?_
      try simp only [Act.put, List.getElem_toArray, List.getElem_cons_zero, List.getElem_cons_succ, List.setIfInBounds_toArray, List.set_cons_zero, List.set_cons_succ]
      refine wpAnyH_take (i := 14) (v := undef) rfl (by kernel_rfl) (by kernel_rfl) (by kernel_rfl) (fun _ _ _ h => h) (Or.inr ⟨by rfl, rfl⟩) hS3 ?_
      try simp only [Act.put, List.getElem_toArray, List.getElem_cons_zero, List.getElem_cons_succ, List.setIfInBounds_toArray, List.set_cons_zero, List.set_cons_succ]
      refine wpAnyH_take (i := 15) (v := (.bool true)) rfl (by kernel_rfl) (by kernel_rfl) (by kernel_rfl) (fun _ _ _ h => h) (Or.inl ⟨by rfl, fun w' hS => by go_simp⟩) hS3 ?_
      try simp only [Act.put, List.getElem_toArray, List.getElem_cons_zero, List.getElem_cons_succ, List.setIfInBounds_toArray, List.set_cons_zero, List.set_cons_succ]
      have hS9 := hS3
      refine wpAnyH_done (by kernel_rfl) ?_ _
      go_wp2_with (fail)
      go_ret
      exact ⟨by rw [HR.out, HE.out]; rfl, HF3.out.trans hS9 (fun _ _ h => h)⟩
    · refine wpAnyH_take (i := 10) (v := (.bool false)) rfl (by kernel_rfl) (by kernel_rfl) (by kernel_rfl) (fun _ _ _ h => h) (Or.inl ⟨by rfl, fun w' hS => by go_simp⟩) hS3 ?_
      try simp only [Act.put, List.getElem_toArray, List.getElem_cons_zero, List.getElem_cons_succ, List.setIfInBounds_toArray, List.set_cons_zero, List.set_cons_succ]
      refine wpAnyH_take (i := 11) (v := (.bool false)) rfl (by kernel_rfl) (by kernel_rfl) (by kernel_rfl) (fun _ _ _ h => h) (Or.inl ⟨by rfl, fun w' hS => by go_simp⟩) hS3 ?_
      try simp only [Act.put, List.getElem_toArray, List.getElem_cons_zero, List.getElem_cons_succ, List.setIfInBounds_toArray, List.set_cons_zero, List.set_cons_succ]
      refine wpAnyH_take (i := 12) (v := (.bool false)) rfl (by kernel_rfl) (by kernel_rfl) (by kernel_rfl) (fun _ _ _ h => h) (Or.inl ⟨by rfl, fun w' hS => by go_simp⟩) hS3 ?_
      try simp only [Act.put, List.getElem_toArray, List.getElem_cons_zero, List.getElem_cons_succ, List.setIfInBounds_toArray, List.set_cons_zero, List.set_cons_succ]
      have HT : Hid (textsB k tube bn = false) := Lib.hid (by unfold textsB; rw [if_neg (by intro e; subst e; simp at h2)]; rw [tubeE, ht]; rfl)
      have he : okB k ns tube bn = false := by unfold okB; rw [hb, hm, HT.out]; rfl
      have HE := Lib.hid he
      clear he
      refine wpAnyH_take (i := 13) (v := (.bool false)) rfl (by kernel_rfl) (by kernel_rfl) (by kernel_rfl) (fun _ _ _ h => h) (Or.inl ⟨by rfl, fun w' hS => by go_simp⟩) hS3 ?_
      try simp only [Act.put, List.getElem_toArray, List.getElem_cons_zero, List.getElem_cons_succ, List.setIfInBounds_toArray, List.set_cons_zero, List.set_cons_succ]
      refine wpAnyH_take (i := 14) (v := (.bool true)) rfl (by kernel_rfl) (by kernel_rfl) (by kernel_rfl) (fun _ _ _ h => h) (Or.inl ⟨by rfl, fun w' hS => by go_simp⟩) hS3 ?_
      try simp only [Act.put, List.getElem_toArray, List.getElem_cons_zero, List.getElem_cons_succ, List.setIfInBounds_toArray, List.set_cons_zero, List.set_cons_succ]
      refine wpAnyH_take (i := 15) (v := (.bool true)) rfl (by kernel_rfl) (by kernel_rfl) (by kernel_rfl) (fun _ _ _ h => h) (Or.inl ⟨by rfl, fun w' hS => by go_simp⟩) hS3 ?_
      try simp only [Act.put, List.getElem_toArray, List.getElem_cons_zero, List.getElem_cons_succ, List.setIfInBounds_toArray, List.set_cons_zero, List.set_cons_succ]
      have hS9 := hS3
      refine wpAnyH_done (by kernel_rfl) ?_ _
      go_wp2_with (fail)
      go_ret
      exact ⟨by rw [HR.out, HE.out]; rfl, HF3.out.trans hS9 (fun _ _ h => h)⟩

set_option maxRecDepth 100000 in
set_option maxHeartbeats 4000000 in
theorem check_B (k : Int) (ns : List Int) (tube : ByteArray) (bp : Option Addr) (bn bc : Nat) (w : World) (hl : ns.length = 16) (hk : Kind k) (ht : tube.toList.isEmpty = true) (h2 : (k == 2) = false) (r : Int) (HR : Hid (r = if okB k ns tube bn then 0 else 101)) :
    Calls Try.prog 14 #[recV k ns tube (.slice bp bn bc)] w fun e w' => e = .returned (.int .i64 r) ∧ Fr (fun _ => False) w w' := by
  have hg := heap_alloc_eq w (.cells (recC k ns tube (.slice bp bn bc)) 29)
  have c0 : (w.alloc (.cells (recC k ns tube (.slice bp bn bc)) 29)).cell? ⟨w.heap.size, 0, none⟩ = some (.int .i64 k) := cell_is hg 0 rfl
  have hsz : (recC k ns tube (.slice bp bn bc)).size = 19 := rfl
  have hi29 : (Try.prog.info? 29).map (·.size) = some (recC k ns tube (.slice bp bn bc)).size := info29s
  have HRV : Hid (Value.agg (recC k ns tube (.slice bp bn bc)) = recV k ns tube (.slice bp bn bc)) := Lib.hid rfl
  have hcell : Hid (∀ w' : World, w'.heap[w.heap.size]? = some (.cells (recC k ns tube (.slice bp bn bc)) 29 (0, 0)) → w'.cell? ⟨w.heap.size, 0, none⟩ = some (.int .i64 k) ∧ w'.cell? ⟨w.heap.size, 17, none⟩ = some (.string tube) ∧ w'.cell? ⟨w.heap.size, 18, none⟩ = some (.slice bp bn bc)) := Lib.hid (fun w' h => ⟨cell_is h 0 rfl, cell_is h 17 rfl, cell_is h 18 rfl⟩)
  have HG := Lib.hid hg
  have HNUM : Hid (∀ w' : World, Calls Try.prog 29 #[.agg (recC k ns tube (.slice bp bn bc))] w' fun e w'' => e = .returned (.agg (ns.map iv).toArray) ∧ Fr (fun _ => False) w' w'') := Lib.hid (fun w' => numbersOf_any k ns tube bp bn bc w' hl)
  have hnil := nil51
  have HVA := Lib.hid (fun w' : World => valid_any tube w')
  have hf0 : Fr (fun _ => False) w (w.alloc (.cells (recC k ns tube (.slice bp bn bc)) 29)) := (Fr.refl _ w).alloc _
  have HF0 := Lib.hid hf0
  clear hg hf0
  unfold recV
  generalize recC k ns tube (.slice bp bn bc) = rc at *
  go_enter Try.func14, Try.ntmps14
  go_wp2_with (fail)
  refine (of_yes k _ hk).mono ?_
  rintro e w1 ⟨rfl, rfl⟩
  have HROW := Lib.hid (ofList_row hk (w.alloc (.cells rc 29)))
  have hf1 : Fr (fun _ => False) (w.alloc (.cells rc 29)) ((w.alloc (.cells rc 29)).alloc (.cells ((ofList k).map natV).toArray 3)) := (Fr.refl _ _).alloc _
  have HG1 := Lib.hid (hf1.get HG.out id)
  have HF1 := Lib.hid (HF0.out.trans hf1 (fun _ _ h => h))
  have hbl : w.heap.size < ((w.alloc (.cells rc 29)).alloc (.cells ((ofList k).map natV).toArray 3)).heap.size := by simp; omega
  clear hf1 c0 HG HF0
  generalize ((w.alloc (.cells rc 29)).alloc (.cells ((ofList k).map natV).toArray 3)) = w1 at *
  generalize hll : (ofList k).length = ll at *
  generalize (w.alloc (.cells rc 29)).heap.size = b3 at *
  have HLL := Lib.hid hll
  clear hll
  obtain ⟨c0, c17, c18⟩ := hcell.out w1 HG1.out
  go_wp2_with ((refine load_guard _ _ rfl ?_); refine wpList_load_row rfl 29 _ rfl w.heap.size rfl 29 _ (0, 0) _ HG1.out Try.underlying29 rfl hi29 ?_)
  refine (HNUM.out w1).mono ?_
  rintro e w2 ⟨rfl, hf2⟩
  have HF2 := Lib.hid (HF1.out.trans hf2 (fun _ _ h => h))
  have HG2 := Lib.hid (hf2.get HG1.out id)
  have HROW2 := Lib.hid (HROW.out.fr hf2)
  have hlt2 : w.heap.size < w2.heap.size := lt_of_heap HG2.out
  clear hf2 c0 c17 c18 HG1 HROW HF1
  have hi := info54o hl
  have hs16 : (ns.map iv).toArray.size = 16 := by simp [hl]
  go_wp2_with (first | ((refine store_guard _ _ _ _ rfl ?_); refine wpList_store_agg _ rfl _ _ 54 rfl w2.heap.size 54 _ (ns.map iv).toArray rfl rfl hi (heap_alloc_eq _ _) hs16.symm (iv_one ns) ?_; intro w3 hw3 hf3; have hf23 : Fr (fun _ => False) w2 w3 := ((Fr.refl _ w2).alloc _).trans hf3 (fun i hi h => absurd hi (by omega)); have HF3 := Lib.hid (HF2.out.trans hf23 (fun _ _ h => h)); have hg3 := hf23.get HG2.out id; have HG3 := Lib.hid hg3; obtain ⟨c0, c17, c18⟩ := hcell.out w3 hg3; have HROW3 := Lib.hid (HROW2.out.fr hf23); have HW3 := Lib.hid hw3; clear hw3 hf3 hf23 hg3 HF2 HG2 HROW2; generalize hq4 : w2.heap.size = b4 at *) | fail)
  have heq := eq54 ns (onlyL ns (ofList k)) hl (onlyTo_length _ _ _)
  have hld : ∀ w' : World, Fr (fun _ => False) w3 w' → w'.rangeAt b4 0 (ns.map iv) := fun w' h j v hv => by
    rw [Nat.zero_add]
    exact cell_is (h.get HW3.out id) j (by simpa using hv)
  have hiL : (Try.prog.info? 54).map (·.size) = some (ns.map iv).length := by rw [info54s]; simp [hl]
  refine wp_region_held_drew (S := fun w' => Fr (fun _ => False) w3 w') (by kernel_rfl) ((Fr.refl _ _).drew) (fun hS1 => ?_)
  refine wpAnyH_take (i := 0) (v := (.agg (ns.map iv).toArray)) rfl (by kernel_rfl) (by kernel_rfl) (by kernel_rfl) (fun _ _ _ h => h) (yieldsIf_load_mid (by rfl) 54 _ rfl b4 0 rfl (ns.map iv) _ (fun w' hS => hld w' hS) Try.underlying54 rfl hiL) hS1 ?_
  try simp only [Act.put, List.getElem_toArray, List.getElem_cons_zero, List.setIfInBounds_toArray, List.set_cons_zero, List.set_cons_succ]
  refine wpAnyH_take (i := 1) (v := (.agg (ns.map iv).toArray)) rfl (by kernel_rfl) (by kernel_rfl) (by kernel_rfl) (fun _ _ _ h => h) (yieldsIf_load_mid (by rfl) 54 _ rfl b4 0 rfl (ns.map iv) _ (fun w' hS => hld w' hS) Try.underlying54 rfl hiL) hS1 ?_
  try simp only [Act.put, List.getElem_toArray, List.getElem_cons_zero, List.getElem_cons_succ, List.setIfInBounds_toArray, List.set_cons_zero, List.set_cons_succ]
  refine wpAnyH_take (i := 2) (v := (.slice (some ⟨b3, 0, none⟩) ll ll)) rfl (by kernel_rfl) (by kernel_rfl) (by kernel_rfl) (fun _ _ _ h => h) (Or.inl ⟨by rfl, fun w' hS => by go_simp⟩) hS1 ?_
  try simp only [Act.put, List.getElem_toArray, List.getElem_cons_zero, List.getElem_cons_succ, List.setIfInBounds_toArray, List.set_cons_zero, List.set_cons_succ]
  refine wpAnyH_ready (rs := [3]) (by kernel_rfl) (by simp) ?_
  refine AllReadyH.cons rfl (fun K hK => ?_) AllReadyH.nil
  rw [if_pos (by rfl)]
  go_simp
  refine (only_any ns (ofList k) _ w3.drew hl (HROW3.out.fr hS1)).mono ?_
  rintro e w5 ⟨rfl, hf⟩
  refine hK.out _ _ (Fr.trans hS1 hf (fun _ _ h => h)) (fun hS2 => ?_)
  clear hK K hf
  try simp only [Act.put, List.getElem_toArray, List.getElem_cons_zero, List.getElem_cons_succ, List.setIfInBounds_toArray, List.set_cons_zero, List.set_cons_succ]
  cases hb : (ns == onlyL ns (ofList k))
  · rw [hb] at heq
    have he : okB k ns tube bn = false := by unfold okB; rw [hb]; rfl
    have HE := Lib.hid he
    clear he
    refine wpAnyH_take (i := 4) (v := (.bool true)) rfl (by kernel_rfl) (by kernel_rfl) (by kernel_rfl) (fun _ _ _ h => h) (Or.inl ⟨by rfl, fun w' hS => by go_simp⟩) hS2 ?_
    try simp only [Act.put, List.getElem_toArray, List.getElem_cons_zero, List.getElem_cons_succ, List.setIfInBounds_toArray, List.set_cons_zero, List.set_cons_succ]
    refine wpAnyH_take (i := 5) (v := (.bool true)) rfl (by kernel_rfl) (by kernel_rfl) (by kernel_rfl) (fun _ _ _ h => h) (Or.inl ⟨by rfl, fun w' hS => by go_simp⟩) hS2 ?_
    try simp only [Act.put, List.getElem_toArray, List.getElem_cons_zero, List.getElem_cons_succ, List.setIfInBounds_toArray, List.set_cons_zero, List.set_cons_succ]
    refine wpAnyH_take (i := 6) (v := undef) rfl (by kernel_rfl) (by kernel_rfl) (by kernel_rfl) (fun _ _ _ h => h) (Or.inr ⟨by rfl, rfl⟩) hS2 ?_
    try simp only [Act.put, List.getElem_toArray, List.getElem_cons_zero, List.getElem_cons_succ, List.setIfInBounds_toArray, List.set_cons_zero, List.set_cons_succ]
    refine wpAnyH_take (i := 7) (v := undef) rfl (by kernel_rfl) (by kernel_rfl) (by kernel_rfl) (fun _ _ _ h => h) (Or.inr ⟨by rfl, rfl⟩) hS2 ?_
    try simp only [Act.put, List.getElem_toArray, List.getElem_cons_zero, List.getElem_cons_succ, List.setIfInBounds_toArray, List.set_cons_zero, List.set_cons_succ]
    refine wpAnyH_take (i := 8) (v := undef) rfl (by kernel_rfl) (by kernel_rfl) (by kernel_rfl) (fun _ _ _ h => h) (Or.inr ⟨by rfl, rfl⟩) hS2 ?_
    try simp only [Act.put, List.getElem_toArray, List.getElem_cons_zero, List.getElem_cons_succ, List.setIfInBounds_toArray, List.set_cons_zero, List.set_cons_succ]
    refine wpAnyH_ready (rs := [9]) (by kernel_rfl) (by simp) ?_
    refine AllReadyH.cons rfl (fun K hK => ?_) AllReadyH.nil
    rw [if_neg (by exact fun h => nomatch (show false = true from h))]
    refine hK.out _ _ hS2 (fun _ => ?_)
    clear hK K
    try simp only [Act.put, List.getElem_toArray, List.getElem_cons_zero, List.getElem_cons_succ, List.setIfInBounds_toArray, List.set_cons_zero, List.set_cons_succ]
    refine wpAnyH_take (i := 10) (v := undef) rfl (by kernel_rfl) (by kernel_rfl) (by kernel_rfl) (fun _ _ _ h => h) (Or.inr ⟨by rfl, rfl⟩) hS2 ?_
    try simp only [Act.put, List.getElem_toArray, List.getElem_cons_zero, List.getElem_cons_succ, List.setIfInBounds_toArray, List.set_cons_zero, List.set_cons_succ]
    refine wpAnyH_take (i := 11) (v := (.bool true)) rfl (by kernel_rfl) (by kernel_rfl) (by kernel_rfl) (fun _ _ _ h => h) (Or.inl ⟨by rfl, fun w' hS => by go_simp⟩) hS2 ?_
    try simp only [Act.put, List.getElem_toArray, List.getElem_cons_zero, List.getElem_cons_succ, List.setIfInBounds_toArray, List.set_cons_zero, List.set_cons_succ]
    refine wpAnyH_take (i := 12) (v := (.bool true)) rfl (by kernel_rfl) (by kernel_rfl) (by kernel_rfl) (fun _ _ _ h => h) (Or.inl ⟨by rfl, fun w' hS => by go_simp⟩) hS2 ?_
    try simp only [Act.put, List.getElem_toArray, List.getElem_cons_zero, List.getElem_cons_succ, List.setIfInBounds_toArray, List.set_cons_zero, List.set_cons_succ]
    refine wpAnyH_take (i := 13) (v := undef) rfl (by kernel_rfl) (by kernel_rfl) (by kernel_rfl) (fun _ _ _ h => h) (Or.inr ⟨by rfl, rfl⟩) hS2 ?_
    try simp only [Act.put, List.getElem_toArray, List.getElem_cons_zero, List.getElem_cons_succ, List.setIfInBounds_toArray, List.set_cons_zero, List.set_cons_succ]
    refine wpAnyH_take (i := 14) (v := undef) rfl (by kernel_rfl) (by kernel_rfl) (by kernel_rfl) (fun _ _ _ h => h) (Or.inr ⟨by rfl, rfl⟩) hS2 ?_
    try simp only [Act.put, List.getElem_toArray, List.getElem_cons_zero, List.getElem_cons_succ, List.setIfInBounds_toArray, List.set_cons_zero, List.set_cons_succ]
    refine wpAnyH_take (i := 15) (v := (.bool true)) rfl (by kernel_rfl) (by kernel_rfl) (by kernel_rfl) (fun _ _ _ h => h) (Or.inl ⟨by rfl, fun w' hS => by go_simp⟩) hS2 ?_
    try simp only [Act.put, List.getElem_toArray, List.getElem_cons_zero, List.getElem_cons_succ, List.setIfInBounds_toArray, List.set_cons_zero, List.set_cons_succ]
    have hS9 := hS2
    refine wpAnyH_done (by kernel_rfl) ?_ _
    go_wp2_with (fail)
    go_ret
    exact ⟨by rw [HR.out, HE.out]; rfl, HF3.out.trans hS9 (fun _ _ h => h)⟩
  · rw [hb] at heq
    refine wpAnyH_take (i := 4) (v := (.bool false)) rfl (by kernel_rfl) (by kernel_rfl) (by kernel_rfl) (fun _ _ _ h => h) (Or.inl ⟨by rfl, fun w' hS => by go_simp⟩) hS2 ?_
    try simp only [Act.put, List.getElem_toArray, List.getElem_cons_zero, List.getElem_cons_succ, List.setIfInBounds_toArray, List.set_cons_zero, List.set_cons_succ]
    refine wpAnyH_take (i := 5) (v := (.bool false)) rfl (by kernel_rfl) (by kernel_rfl) (by kernel_rfl) (fun _ _ _ h => h) (Or.inl ⟨by rfl, fun w' hS => by go_simp⟩) hS2 ?_
    try simp only [Act.put, List.getElem_toArray, List.getElem_cons_zero, List.getElem_cons_succ, List.setIfInBounds_toArray, List.set_cons_zero, List.set_cons_succ]
    refine wpAnyH_take (i := 6) (v := (.agg (ns.map iv).toArray)) rfl (by kernel_rfl) (by kernel_rfl) (by kernel_rfl) (fun _ _ _ h => h) (yieldsIf_load_mid (by rfl) 54 _ rfl b4 0 rfl (ns.map iv) _ (fun w' hS => hld w' hS) Try.underlying54 rfl hiL) hS2 ?_
    try simp only [Act.put, List.getElem_toArray, List.getElem_cons_zero, List.getElem_cons_succ, List.setIfInBounds_toArray, List.set_cons_zero, List.set_cons_succ]
    refine wpAnyH_take (i := 7) (v := (.pointer (some ⟨w.heap.size, 0, none⟩))) rfl (by kernel_rfl) (by kernel_rfl) (by kernel_rfl) (fun _ _ _ h => h) (Or.inl ⟨by rfl, fun w' hS => by go_simp⟩) hS2 ?_
    try simp only [Act.put, List.getElem_toArray, List.getElem_cons_zero, List.getElem_cons_succ, List.setIfInBounds_toArray, List.set_cons_zero, List.set_cons_succ]
    refine wpAnyH_take (i := 8) (v := (.int .i64 k)) rfl (by kernel_rfl) (by kernel_rfl) (by kernel_rfl) (fun _ _ _ h => h) (Or.inl ⟨by rfl, fun w' hS => by have c := cell_fr' hS c0; go_simp⟩) hS2 ?_
    try simp only [Act.put, List.getElem_toArray, List.getElem_cons_zero, List.getElem_cons_succ, List.setIfInBounds_toArray, List.set_cons_zero, List.set_cons_succ]
    refine wpAnyH_ready (rs := [9]) (by kernel_rfl) (by simp) ?_
    refine AllReadyH.cons rfl (fun K hK => ?_) AllReadyH.nil
    rw [if_pos (by rfl)]
    go_simp
    refine (mayN_any ns k w5 hl hk).mono ?_
    rintro e w6 ⟨rfl, hf⟩
    refine hK.out _ _ (Fr.trans hS2 hf (fun _ _ h => h)) (fun hS3 => ?_)
    clear hK K hf
    try simp only [Act.put, List.getElem_toArray, List.getElem_cons_zero, List.getElem_cons_succ, List.setIfInBounds_toArray, List.set_cons_zero, List.set_cons_succ]
    cases hm : mayB ns k
    · have he : okB k ns tube bn = false := by unfold okB; rw [hb, hm]; rfl
      have HE := Lib.hid he
      clear he
      refine wpAnyH_take (i := 10) (v := (.bool true)) rfl (by kernel_rfl) (by kernel_rfl) (by kernel_rfl) (fun _ _ _ h => h) (Or.inl ⟨by rfl, fun w' hS => by go_simp⟩) hS3 ?_
      try simp only [Act.put, List.getElem_toArray, List.getElem_cons_zero, List.getElem_cons_succ, List.setIfInBounds_toArray, List.set_cons_zero, List.set_cons_succ]
      refine wpAnyH_take (i := 11) (v := (.bool true)) rfl (by kernel_rfl) (by kernel_rfl) (by kernel_rfl) (fun _ _ _ h => h) (Or.inl ⟨by rfl, fun w' hS => by go_simp⟩) hS3 ?_
      try simp only [Act.put, List.getElem_toArray, List.getElem_cons_zero, List.getElem_cons_succ, List.setIfInBounds_toArray, List.set_cons_zero, List.set_cons_succ]
      refine wpAnyH_take (i := 12) (v := (.bool true)) rfl (by kernel_rfl) (by kernel_rfl) (by kernel_rfl) (fun _ _ _ h => h) (Or.inl ⟨by rfl, fun w' hS => by go_simp⟩) hS3 ?_
      try simp only [Act.put, List.getElem_toArray, List.getElem_cons_zero, List.getElem_cons_succ, List.setIfInBounds_toArray, List.set_cons_zero, List.set_cons_succ]
      refine wpAnyH_take (i := 13) (v := undef) rfl (by kernel_rfl) (by kernel_rfl) (by kernel_rfl) (fun _ _ _ h => h) (Or.inr ⟨by rfl, rfl⟩) hS3 ?_
      try simp only [Act.put, List.getElem_toArray, List.getElem_cons_zero, List.getElem_cons_succ, List.setIfInBounds_toArray, List.set_cons_zero, List.set_cons_succ]
      refine wpAnyH_take (i := 14) (v := undef) rfl (by kernel_rfl) (by kernel_rfl) (by kernel_rfl) (fun _ _ _ h => h) (Or.inr ⟨by rfl, rfl⟩) hS3 ?_
      try simp only [Act.put, List.getElem_toArray, List.getElem_cons_zero, List.getElem_cons_succ, List.setIfInBounds_toArray, List.set_cons_zero, List.set_cons_succ]
      refine wpAnyH_take (i := 15) (v := (.bool true)) rfl (by kernel_rfl) (by kernel_rfl) (by kernel_rfl) (fun _ _ _ h => h) (Or.inl ⟨by rfl, fun w' hS => by go_simp⟩) hS3 ?_
      try simp only [Act.put, List.getElem_toArray, List.getElem_cons_zero, List.getElem_cons_succ, List.setIfInBounds_toArray, List.set_cons_zero, List.set_cons_succ]
      have hS9 := hS3
      refine wpAnyH_done (by kernel_rfl) ?_ _
      go_wp2_with (fail)
      go_ret
      exact ⟨by rw [HR.out, HE.out]; rfl, HF3.out.trans hS9 (fun _ _ h => h)⟩
    · refine wpAnyH_take (i := 10) (v := (.bool false)) rfl (by kernel_rfl) (by kernel_rfl) (by kernel_rfl) (fun _ _ _ h => h) (Or.inl ⟨by rfl, fun w' hS => by go_simp⟩) hS3 ?_
      try simp only [Act.put, List.getElem_toArray, List.getElem_cons_zero, List.getElem_cons_succ, List.setIfInBounds_toArray, List.set_cons_zero, List.set_cons_succ]
      refine wpAnyH_take (i := 11) (v := (.bool false)) rfl (by kernel_rfl) (by kernel_rfl) (by kernel_rfl) (fun _ _ _ h => h) (Or.inl ⟨by rfl, fun w' hS => by go_simp⟩) hS3 ?_
      try simp only [Act.put, List.getElem_toArray, List.getElem_cons_zero, List.getElem_cons_succ, List.setIfInBounds_toArray, List.set_cons_zero, List.set_cons_succ]
      refine wpAnyH_take (i := 12) (v := (.bool false)) rfl (by kernel_rfl) (by kernel_rfl) (by kernel_rfl) (fun _ _ _ h => h) (Or.inl ⟨by rfl, fun w' hS => by go_simp⟩) hS3 ?_
      try simp only [Act.put, List.getElem_toArray, List.getElem_cons_zero, List.getElem_cons_succ, List.setIfInBounds_toArray, List.set_cons_zero, List.set_cons_succ]
      cases hz : ((bn : Int) == 0)
      · have HT : Hid (textsB k tube bn = false) := Lib.hid (by unfold textsB; rw [if_neg (by intro e; subst e; simp at h2)]; rw [tubeE, ht, hz]; rfl)
        have he : okB k ns tube bn = false := by unfold okB; rw [hb, hm, HT.out]; rfl
        have HE := Lib.hid he
        clear he
        refine wpAnyH_take (i := 13) (v := (.bool false)) rfl (by kernel_rfl) (by kernel_rfl) (by kernel_rfl) (fun _ _ _ h => h) (Or.inl ⟨by rfl, fun w' hS => by go_simp⟩) hS3 ?_
        try simp only [Act.put, List.getElem_toArray, List.getElem_cons_zero, List.getElem_cons_succ, List.setIfInBounds_toArray, List.set_cons_zero, List.set_cons_succ]
        refine wpAnyH_take (i := 14) (v := (.bool true)) rfl (by kernel_rfl) (by kernel_rfl) (by kernel_rfl) (fun _ _ _ h => h) (Or.inl ⟨by rfl, fun w' hS => by go_simp⟩) hS3 ?_
        try simp only [Act.put, List.getElem_toArray, List.getElem_cons_zero, List.getElem_cons_succ, List.setIfInBounds_toArray, List.set_cons_zero, List.set_cons_succ]
        refine wpAnyH_take (i := 15) (v := (.bool true)) rfl (by kernel_rfl) (by kernel_rfl) (by kernel_rfl) (fun _ _ _ h => h) (Or.inl ⟨by rfl, fun w' hS => by go_simp⟩) hS3 ?_
        try simp only [Act.put, List.getElem_toArray, List.getElem_cons_zero, List.getElem_cons_succ, List.setIfInBounds_toArray, List.set_cons_zero, List.set_cons_succ]
        have hS9 := hS3
        refine wpAnyH_done (by kernel_rfl) ?_ _
        go_wp2_with (fail)
        go_ret
        exact ⟨by rw [HR.out, HE.out]; rfl, HF3.out.trans hS9 (fun _ _ h => h)⟩
      · have HT : Hid (textsB k tube bn = true) := Lib.hid (by unfold textsB; rw [if_neg (by intro e; subst e; simp at h2)]; rw [tubeE, ht, hz]; rfl)
        have he : okB k ns tube bn = true := by unfold okB; rw [hb, hm, HT.out]; rfl
        have HE := Lib.hid he
        clear he
        refine wpAnyH_take (i := 13) (v := (.bool true)) rfl (by kernel_rfl) (by kernel_rfl) (by kernel_rfl) (fun _ _ _ h => h) (Or.inl ⟨by rfl, fun w' hS => by go_simp⟩) hS3 ?_
        try simp only [Act.put, List.getElem_toArray, List.getElem_cons_zero, List.getElem_cons_succ, List.setIfInBounds_toArray, List.set_cons_zero, List.set_cons_succ]
        refine wpAnyH_take (i := 14) (v := (.bool false)) rfl (by kernel_rfl) (by kernel_rfl) (by kernel_rfl) (fun _ _ _ h => h) (Or.inl ⟨by rfl, fun w' hS => by go_simp⟩) hS3 ?_
        try simp only [Act.put, List.getElem_toArray, List.getElem_cons_zero, List.getElem_cons_succ, List.setIfInBounds_toArray, List.set_cons_zero, List.set_cons_succ]
        refine wpAnyH_take (i := 15) (v := (.bool false)) rfl (by kernel_rfl) (by kernel_rfl) (by kernel_rfl) (fun _ _ _ h => h) (Or.inl ⟨by rfl, fun w' hS => by go_simp⟩) hS3 ?_
        try simp only [Act.put, List.getElem_toArray, List.getElem_cons_zero, List.getElem_cons_succ, List.setIfInBounds_toArray, List.set_cons_zero, List.set_cons_succ]
        have hS9 := hS3
        refine wpAnyH_done (by kernel_rfl) ?_ _
        go_wp2_with (fail)
        go_ret
        exact ⟨by rw [HR.out, HE.out]; rfl, HF3.out.trans hS9 (fun _ _ h => h)⟩

set_option maxRecDepth 100000 in
set_option maxHeartbeats 4000000 in
theorem check_Cf (k : Int) (ns : List Int) (tube : ByteArray) (bp : Option Addr) (bn bc : Nat) (w : World) (hl : ns.length = 16) (hk : Kind k) (ht : tube.toList.isEmpty = false) (h2 : (k == 2) = true) (hv : validB tube = false) (r : Int) (HR : Hid (r = if okB k ns tube bn then 0 else 101)) :
    Calls Try.prog 14 #[recV k ns tube (.slice bp bn bc)] w fun e w' => e = .returned (.int .i64 r) ∧ Fr (fun _ => False) w w' := by
  have hg := heap_alloc_eq w (.cells (recC k ns tube (.slice bp bn bc)) 29)
  have c0 : (w.alloc (.cells (recC k ns tube (.slice bp bn bc)) 29)).cell? ⟨w.heap.size, 0, none⟩ = some (.int .i64 k) := cell_is hg 0 rfl
  have hsz : (recC k ns tube (.slice bp bn bc)).size = 19 := rfl
  have hi29 : (Try.prog.info? 29).map (·.size) = some (recC k ns tube (.slice bp bn bc)).size := info29s
  have HRV : Hid (Value.agg (recC k ns tube (.slice bp bn bc)) = recV k ns tube (.slice bp bn bc)) := Lib.hid rfl
  have hcell : Hid (∀ w' : World, w'.heap[w.heap.size]? = some (.cells (recC k ns tube (.slice bp bn bc)) 29 (0, 0)) → w'.cell? ⟨w.heap.size, 0, none⟩ = some (.int .i64 k) ∧ w'.cell? ⟨w.heap.size, 17, none⟩ = some (.string tube) ∧ w'.cell? ⟨w.heap.size, 18, none⟩ = some (.slice bp bn bc)) := Lib.hid (fun w' h => ⟨cell_is h 0 rfl, cell_is h 17 rfl, cell_is h 18 rfl⟩)
  have HG := Lib.hid hg
  have HNUM : Hid (∀ w' : World, Calls Try.prog 29 #[.agg (recC k ns tube (.slice bp bn bc))] w' fun e w'' => e = .returned (.agg (ns.map iv).toArray) ∧ Fr (fun _ => False) w' w'') := Lib.hid (fun w' => numbersOf_any k ns tube bp bn bc w' hl)
  have hnil := nil51
  have HVA := Lib.hid (fun w' : World => valid_any tube w')
  have hf0 : Fr (fun _ => False) w (w.alloc (.cells (recC k ns tube (.slice bp bn bc)) 29)) := (Fr.refl _ w).alloc _
  have HF0 := Lib.hid hf0
  clear hg hf0
  unfold recV
  generalize recC k ns tube (.slice bp bn bc) = rc at *
  go_enter Try.func14, Try.ntmps14
  go_wp2_with (fail)
  refine (of_yes k _ hk).mono ?_
  rintro e w1 ⟨rfl, rfl⟩
  have HROW := Lib.hid (ofList_row hk (w.alloc (.cells rc 29)))
  have hf1 : Fr (fun _ => False) (w.alloc (.cells rc 29)) ((w.alloc (.cells rc 29)).alloc (.cells ((ofList k).map natV).toArray 3)) := (Fr.refl _ _).alloc _
  have HG1 := Lib.hid (hf1.get HG.out id)
  have HF1 := Lib.hid (HF0.out.trans hf1 (fun _ _ h => h))
  have hbl : w.heap.size < ((w.alloc (.cells rc 29)).alloc (.cells ((ofList k).map natV).toArray 3)).heap.size := by simp; omega
  clear hf1 c0 HG HF0
  generalize ((w.alloc (.cells rc 29)).alloc (.cells ((ofList k).map natV).toArray 3)) = w1 at *
  generalize hll : (ofList k).length = ll at *
  generalize (w.alloc (.cells rc 29)).heap.size = b3 at *
  have HLL := Lib.hid hll
  clear hll
  obtain ⟨c0, c17, c18⟩ := hcell.out w1 HG1.out
  go_wp2_with ((refine load_guard _ _ rfl ?_); refine wpList_load_row rfl 29 _ rfl w.heap.size rfl 29 _ (0, 0) _ HG1.out Try.underlying29 rfl hi29 ?_)
  refine (HNUM.out w1).mono ?_
  rintro e w2 ⟨rfl, hf2⟩
  have HF2 := Lib.hid (HF1.out.trans hf2 (fun _ _ h => h))
  have HG2 := Lib.hid (hf2.get HG1.out id)
  have HROW2 := Lib.hid (HROW.out.fr hf2)
  have hlt2 : w.heap.size < w2.heap.size := lt_of_heap HG2.out
  clear hf2 c0 c17 c18 HG1 HROW HF1
  have hi := info54o hl
  have hs16 : (ns.map iv).toArray.size = 16 := by simp [hl]
  go_wp2_with (first | ((refine store_guard _ _ _ _ rfl ?_); refine wpList_store_agg _ rfl _ _ 54 rfl w2.heap.size 54 _ (ns.map iv).toArray rfl rfl hi (heap_alloc_eq _ _) hs16.symm (iv_one ns) ?_; intro w3 hw3 hf3; have hf23 : Fr (fun _ => False) w2 w3 := ((Fr.refl _ w2).alloc _).trans hf3 (fun i hi h => absurd hi (by omega)); have HF3 := Lib.hid (HF2.out.trans hf23 (fun _ _ h => h)); have hg3 := hf23.get HG2.out id; have HG3 := Lib.hid hg3; obtain ⟨c0, c17, c18⟩ := hcell.out w3 hg3; have HROW3 := Lib.hid (HROW2.out.fr hf23); have HW3 := Lib.hid hw3; clear hw3 hf3 hf23 hg3 HF2 HG2 HROW2; generalize hq4 : w2.heap.size = b4 at *) | (refine (HVA.out _).mono ?_; rintro e w3' ⟨rfl, rfl⟩; rw [hv]))
  have heq := eq54 ns (onlyL ns (ofList k)) hl (onlyTo_length _ _ _)
  have hld : ∀ w' : World, Fr (fun _ => False) w3 w' → w'.rangeAt b4 0 (ns.map iv) := fun w' h j v hv => by
    rw [Nat.zero_add]
    exact cell_is (h.get HW3.out id) j (by simpa using hv)
  have hiL : (Try.prog.info? 54).map (·.size) = some (ns.map iv).length := by rw [info54s]; simp [hl]
  refine wp_region_held_drew (S := fun w' => Fr (fun _ => False) w3 w') (by kernel_rfl) ((Fr.refl _ _).drew) (fun hS1 => ?_)
  refine wpAnyH_take (i := 0) (v := (.agg (ns.map iv).toArray)) rfl (by kernel_rfl) (by kernel_rfl) (by kernel_rfl) (fun _ _ _ h => h) (yieldsIf_load_mid (by rfl) 54 _ rfl b4 0 rfl (ns.map iv) _ (fun w' hS => hld w' hS) Try.underlying54 rfl hiL) hS1 ?_
  try simp only [Act.put, List.getElem_toArray, List.getElem_cons_zero, List.setIfInBounds_toArray, List.set_cons_zero, List.set_cons_succ]
  refine wpAnyH_take (i := 1) (v := (.agg (ns.map iv).toArray)) rfl (by kernel_rfl) (by kernel_rfl) (by kernel_rfl) (fun _ _ _ h => h) (yieldsIf_load_mid (by rfl) 54 _ rfl b4 0 rfl (ns.map iv) _ (fun w' hS => hld w' hS) Try.underlying54 rfl hiL) hS1 ?_
  try simp only [Act.put, List.getElem_toArray, List.getElem_cons_zero, List.getElem_cons_succ, List.setIfInBounds_toArray, List.set_cons_zero, List.set_cons_succ]
  refine wpAnyH_take (i := 2) (v := (.slice (some ⟨b3, 0, none⟩) ll ll)) rfl (by kernel_rfl) (by kernel_rfl) (by kernel_rfl) (fun _ _ _ h => h) (Or.inl ⟨by rfl, fun w' hS => by go_simp⟩) hS1 ?_
  try simp only [Act.put, List.getElem_toArray, List.getElem_cons_zero, List.getElem_cons_succ, List.setIfInBounds_toArray, List.set_cons_zero, List.set_cons_succ]
  refine wpAnyH_ready (rs := [3]) (by kernel_rfl) (by simp) ?_
  refine AllReadyH.cons rfl (fun K hK => ?_) AllReadyH.nil
  rw [if_pos (by rfl)]
  go_simp
  refine (only_any ns (ofList k) _ w3.drew hl (HROW3.out.fr hS1)).mono ?_
  rintro e w5 ⟨rfl, hf⟩
  refine hK.out _ _ (Fr.trans hS1 hf (fun _ _ h => h)) (fun hS2 => ?_)
  clear hK K hf
  try simp only [Act.put, List.getElem_toArray, List.getElem_cons_zero, List.getElem_cons_succ, List.setIfInBounds_toArray, List.set_cons_zero, List.set_cons_succ]
  cases hb : (ns == onlyL ns (ofList k))
  · rw [hb] at heq
    have he : okB k ns tube bn = false := by unfold okB; rw [hb]; rfl
    have HE := Lib.hid he
    clear he
    refine wpAnyH_take (i := 4) (v := (.bool true)) rfl (by kernel_rfl) (by kernel_rfl) (by kernel_rfl) (fun _ _ _ h => h) (Or.inl ⟨by rfl, fun w' hS => by go_simp⟩) hS2 ?_
    try simp only [Act.put, List.getElem_toArray, List.getElem_cons_zero, List.getElem_cons_succ, List.setIfInBounds_toArray, List.set_cons_zero, List.set_cons_succ]
    refine wpAnyH_take (i := 5) (v := (.bool true)) rfl (by kernel_rfl) (by kernel_rfl) (by kernel_rfl) (fun _ _ _ h => h) (Or.inl ⟨by rfl, fun w' hS => by go_simp⟩) hS2 ?_
    try simp only [Act.put, List.getElem_toArray, List.getElem_cons_zero, List.getElem_cons_succ, List.setIfInBounds_toArray, List.set_cons_zero, List.set_cons_succ]
    refine wpAnyH_take (i := 6) (v := undef) rfl (by kernel_rfl) (by kernel_rfl) (by kernel_rfl) (fun _ _ _ h => h) (Or.inr ⟨by rfl, rfl⟩) hS2 ?_
    try simp only [Act.put, List.getElem_toArray, List.getElem_cons_zero, List.getElem_cons_succ, List.setIfInBounds_toArray, List.set_cons_zero, List.set_cons_succ]
    refine wpAnyH_take (i := 7) (v := undef) rfl (by kernel_rfl) (by kernel_rfl) (by kernel_rfl) (fun _ _ _ h => h) (Or.inr ⟨by rfl, rfl⟩) hS2 ?_
    try simp only [Act.put, List.getElem_toArray, List.getElem_cons_zero, List.getElem_cons_succ, List.setIfInBounds_toArray, List.set_cons_zero, List.set_cons_succ]
    refine wpAnyH_take (i := 8) (v := undef) rfl (by kernel_rfl) (by kernel_rfl) (by kernel_rfl) (fun _ _ _ h => h) (Or.inr ⟨by rfl, rfl⟩) hS2 ?_
    try simp only [Act.put, List.getElem_toArray, List.getElem_cons_zero, List.getElem_cons_succ, List.setIfInBounds_toArray, List.set_cons_zero, List.set_cons_succ]
    refine wpAnyH_ready (rs := [9]) (by kernel_rfl) (by simp) ?_
    refine AllReadyH.cons rfl (fun K hK => ?_) AllReadyH.nil
    rw [if_neg (by exact fun h => nomatch (show false = true from h))]
    refine hK.out _ _ hS2 (fun _ => ?_)
    clear hK K
    try simp only [Act.put, List.getElem_toArray, List.getElem_cons_zero, List.getElem_cons_succ, List.setIfInBounds_toArray, List.set_cons_zero, List.set_cons_succ]
    refine wpAnyH_take (i := 10) (v := undef) rfl (by kernel_rfl) (by kernel_rfl) (by kernel_rfl) (fun _ _ _ h => h) (Or.inr ⟨by rfl, rfl⟩) hS2 ?_
    try simp only [Act.put, List.getElem_toArray, List.getElem_cons_zero, List.getElem_cons_succ, List.setIfInBounds_toArray, List.set_cons_zero, List.set_cons_succ]
    refine wpAnyH_take (i := 11) (v := (.bool true)) rfl (by kernel_rfl) (by kernel_rfl) (by kernel_rfl) (fun _ _ _ h => h) (Or.inl ⟨by rfl, fun w' hS => by go_simp⟩) hS2 ?_
    try simp only [Act.put, List.getElem_toArray, List.getElem_cons_zero, List.getElem_cons_succ, List.setIfInBounds_toArray, List.set_cons_zero, List.set_cons_succ]
    refine wpAnyH_take (i := 12) (v := (.bool true)) rfl (by kernel_rfl) (by kernel_rfl) (by kernel_rfl) (fun _ _ _ h => h) (Or.inl ⟨by rfl, fun w' hS => by go_simp⟩) hS2 ?_
    try simp only [Act.put, List.getElem_toArray, List.getElem_cons_zero, List.getElem_cons_succ, List.setIfInBounds_toArray, List.set_cons_zero, List.set_cons_succ]
    refine wpAnyH_take (i := 13) (v := undef) rfl (by kernel_rfl) (by kernel_rfl) (by kernel_rfl) (fun _ _ _ h => h) (Or.inr ⟨by rfl, rfl⟩) hS2 ?_
    try simp only [Act.put, List.getElem_toArray, List.getElem_cons_zero, List.getElem_cons_succ, List.setIfInBounds_toArray, List.set_cons_zero, List.set_cons_succ]
    refine wpAnyH_take (i := 14) (v := undef) rfl (by kernel_rfl) (by kernel_rfl) (by kernel_rfl) (fun _ _ _ h => h) (Or.inr ⟨by rfl, rfl⟩) hS2 ?_
    try simp only [Act.put, List.getElem_toArray, List.getElem_cons_zero, List.getElem_cons_succ, List.setIfInBounds_toArray, List.set_cons_zero, List.set_cons_succ]
    refine wpAnyH_take (i := 15) (v := (.bool true)) rfl (by kernel_rfl) (by kernel_rfl) (by kernel_rfl) (fun _ _ _ h => h) (Or.inl ⟨by rfl, fun w' hS => by go_simp⟩) hS2 ?_
    try simp only [Act.put, List.getElem_toArray, List.getElem_cons_zero, List.getElem_cons_succ, List.setIfInBounds_toArray, List.set_cons_zero, List.set_cons_succ]
    have hS9 := hS2
    refine wpAnyH_done (by kernel_rfl) ?_ _
    go_wp2_with (fail)
    go_ret
    exact ⟨by rw [HR.out, HE.out]; rfl, HF3.out.trans hS9 (fun _ _ h => h)⟩
  · rw [hb] at heq
    refine wpAnyH_take (i := 4) (v := (.bool false)) rfl (by kernel_rfl) (by kernel_rfl) (by kernel_rfl) (fun _ _ _ h => h) (Or.inl ⟨by rfl, fun w' hS => by go_simp⟩) hS2 ?_
    try simp only [Act.put, List.getElem_toArray, List.getElem_cons_zero, List.getElem_cons_succ, List.setIfInBounds_toArray, List.set_cons_zero, List.set_cons_succ]
    refine wpAnyH_take (i := 5) (v := (.bool false)) rfl (by kernel_rfl) (by kernel_rfl) (by kernel_rfl) (fun _ _ _ h => h) (Or.inl ⟨by rfl, fun w' hS => by go_simp⟩) hS2 ?_
    try simp only [Act.put, List.getElem_toArray, List.getElem_cons_zero, List.getElem_cons_succ, List.setIfInBounds_toArray, List.set_cons_zero, List.set_cons_succ]
    refine wpAnyH_take (i := 6) (v := (.agg (ns.map iv).toArray)) rfl (by kernel_rfl) (by kernel_rfl) (by kernel_rfl) (fun _ _ _ h => h) (yieldsIf_load_mid (by rfl) 54 _ rfl b4 0 rfl (ns.map iv) _ (fun w' hS => hld w' hS) Try.underlying54 rfl hiL) hS2 ?_
    try simp only [Act.put, List.getElem_toArray, List.getElem_cons_zero, List.getElem_cons_succ, List.setIfInBounds_toArray, List.set_cons_zero, List.set_cons_succ]
    refine wpAnyH_take (i := 7) (v := (.pointer (some ⟨w.heap.size, 0, none⟩))) rfl (by kernel_rfl) (by kernel_rfl) (by kernel_rfl) (fun _ _ _ h => h) (Or.inl ⟨by rfl, fun w' hS => by go_simp⟩) hS2 ?_
    try simp only [Act.put, List.getElem_toArray, List.getElem_cons_zero, List.getElem_cons_succ, List.setIfInBounds_toArray, List.set_cons_zero, List.set_cons_succ]
    refine wpAnyH_take (i := 8) (v := (.int .i64 k)) rfl (by kernel_rfl) (by kernel_rfl) (by kernel_rfl) (fun _ _ _ h => h) (Or.inl ⟨by rfl, fun w' hS => by have c := cell_fr' hS c0; go_simp⟩) hS2 ?_
    try simp only [Act.put, List.getElem_toArray, List.getElem_cons_zero, List.getElem_cons_succ, List.setIfInBounds_toArray, List.set_cons_zero, List.set_cons_succ]
    refine wpAnyH_ready (rs := [9]) (by kernel_rfl) (by simp) ?_
    refine AllReadyH.cons rfl (fun K hK => ?_) AllReadyH.nil
    rw [if_pos (by rfl)]
    go_simp
    refine (mayN_any ns k w5 hl hk).mono ?_
    rintro e w6 ⟨rfl, hf⟩
    refine hK.out _ _ (Fr.trans hS2 hf (fun _ _ h => h)) (fun hS3 => ?_)
    clear hK K hf
    try simp only [Act.put, List.getElem_toArray, List.getElem_cons_zero, List.getElem_cons_succ, List.setIfInBounds_toArray, List.set_cons_zero, List.set_cons_succ]
    cases hm : mayB ns k
    · have he : okB k ns tube bn = false := by unfold okB; rw [hb, hm]; rfl
      have HE := Lib.hid he
      clear he
      refine wpAnyH_take (i := 10) (v := (.bool true)) rfl (by kernel_rfl) (by kernel_rfl) (by kernel_rfl) (fun _ _ _ h => h) (Or.inl ⟨by rfl, fun w' hS => by go_simp⟩) hS3 ?_
      try simp only [Act.put, List.getElem_toArray, List.getElem_cons_zero, List.getElem_cons_succ, List.setIfInBounds_toArray, List.set_cons_zero, List.set_cons_succ]
      refine wpAnyH_take (i := 11) (v := (.bool true)) rfl (by kernel_rfl) (by kernel_rfl) (by kernel_rfl) (fun _ _ _ h => h) (Or.inl ⟨by rfl, fun w' hS => by go_simp⟩) hS3 ?_
      try simp only [Act.put, List.getElem_toArray, List.getElem_cons_zero, List.getElem_cons_succ, List.setIfInBounds_toArray, List.set_cons_zero, List.set_cons_succ]
      refine wpAnyH_take (i := 12) (v := (.bool true)) rfl (by kernel_rfl) (by kernel_rfl) (by kernel_rfl) (fun _ _ _ h => h) (Or.inl ⟨by rfl, fun w' hS => by go_simp⟩) hS3 ?_
      try simp only [Act.put, List.getElem_toArray, List.getElem_cons_zero, List.getElem_cons_succ, List.setIfInBounds_toArray, List.set_cons_zero, List.set_cons_succ]
      refine wpAnyH_take (i := 13) (v := undef) rfl (by kernel_rfl) (by kernel_rfl) (by kernel_rfl) (fun _ _ _ h => h) (Or.inr ⟨by rfl, rfl⟩) hS3 ?_
      try simp only [Act.put, List.getElem_toArray, List.getElem_cons_zero, List.getElem_cons_succ, List.setIfInBounds_toArray, List.set_cons_zero, List.set_cons_succ]
      refine wpAnyH_take (i := 14) (v := undef) rfl (by kernel_rfl) (by kernel_rfl) (by kernel_rfl) (fun _ _ _ h => h) (Or.inr ⟨by rfl, rfl⟩) hS3 ?_
      try simp only [Act.put, List.getElem_toArray, List.getElem_cons_zero, List.getElem_cons_succ, List.setIfInBounds_toArray, List.set_cons_zero, List.set_cons_succ]
      refine wpAnyH_take (i := 15) (v := (.bool true)) rfl (by kernel_rfl) (by kernel_rfl) (by kernel_rfl) (fun _ _ _ h => h) (Or.inl ⟨by rfl, fun w' hS => by go_simp⟩) hS3 ?_
      try simp only [Act.put, List.getElem_toArray, List.getElem_cons_zero, List.getElem_cons_succ, List.setIfInBounds_toArray, List.set_cons_zero, List.set_cons_succ]
      have hS9 := hS3
      refine wpAnyH_done (by kernel_rfl) ?_ _
      go_wp2_with (fail)
      go_ret
      exact ⟨by rw [HR.out, HE.out]; rfl, HF3.out.trans hS9 (fun _ _ h => h)⟩
    · refine wpAnyH_take (i := 10) (v := (.bool false)) rfl (by kernel_rfl) (by kernel_rfl) (by kernel_rfl) (fun _ _ _ h => h) (Or.inl ⟨by rfl, fun w' hS => by go_simp⟩) hS3 ?_
      try simp only [Act.put, List.getElem_toArray, List.getElem_cons_zero, List.getElem_cons_succ, List.setIfInBounds_toArray, List.set_cons_zero, List.set_cons_succ]
      refine wpAnyH_take (i := 11) (v := (.bool false)) rfl (by kernel_rfl) (by kernel_rfl) (by kernel_rfl) (fun _ _ _ h => h) (Or.inl ⟨by rfl, fun w' hS => by go_simp⟩) hS3 ?_
      try simp only [Act.put, List.getElem_toArray, List.getElem_cons_zero, List.getElem_cons_succ, List.setIfInBounds_toArray, List.set_cons_zero, List.set_cons_succ]
      refine wpAnyH_take (i := 12) (v := (.bool false)) rfl (by kernel_rfl) (by kernel_rfl) (by kernel_rfl) (fun _ _ _ h => h) (Or.inl ⟨by rfl, fun w' hS => by go_simp⟩) hS3 ?_
      try simp only [Act.put, List.getElem_toArray, List.getElem_cons_zero, List.getElem_cons_succ, List.setIfInBounds_toArray, List.set_cons_zero, List.set_cons_succ]
      have HT : Hid (textsB k tube bn = false) := Lib.hid (by unfold textsB; rw [if_pos (by simpa using h2)]; rw [hv]; rfl)
      have he : okB k ns tube bn = false := by unfold okB; rw [hb, hm, HT.out]; rfl
      have HE := Lib.hid he
      clear he
      refine wpAnyH_take (i := 13) (v := (.bool false)) rfl (by kernel_rfl) (by kernel_rfl) (by kernel_rfl) (fun _ _ _ h => h) (Or.inl ⟨by rfl, fun w' hS => by go_simp⟩) hS3 ?_
      try simp only [Act.put, List.getElem_toArray, List.getElem_cons_zero, List.getElem_cons_succ, List.setIfInBounds_toArray, List.set_cons_zero, List.set_cons_succ]
      refine wpAnyH_take (i := 14) (v := (.bool true)) rfl (by kernel_rfl) (by kernel_rfl) (by kernel_rfl) (fun _ _ _ h => h) (Or.inl ⟨by rfl, fun w' hS => by go_simp⟩) hS3 ?_
      try simp only [Act.put, List.getElem_toArray, List.getElem_cons_zero, List.getElem_cons_succ, List.setIfInBounds_toArray, List.set_cons_zero, List.set_cons_succ]
      refine wpAnyH_take (i := 15) (v := (.bool true)) rfl (by kernel_rfl) (by kernel_rfl) (by kernel_rfl) (fun _ _ _ h => h) (Or.inl ⟨by rfl, fun w' hS => by go_simp⟩) hS3 ?_
      try simp only [Act.put, List.getElem_toArray, List.getElem_cons_zero, List.getElem_cons_succ, List.setIfInBounds_toArray, List.set_cons_zero, List.set_cons_succ]
      have hS9 := hS3
      refine wpAnyH_done (by kernel_rfl) ?_ _
      go_wp2_with (fail)
      go_ret
      exact ⟨by rw [HR.out, HE.out]; rfl, HF3.out.trans hS9 (fun _ _ h => h)⟩

set_option maxRecDepth 100000 in
set_option maxHeartbeats 4000000 in
theorem check_Df (k : Int) (ns : List Int) (tube : ByteArray) (bp : Option Addr) (bn bc : Nat) (w : World) (hl : ns.length = 16) (hk : Kind k) (ht : tube.toList.isEmpty = false) (h2 : (k == 2) = true) (hv : validB tube = true) (r : Int) (HR : Hid (r = if okB k ns tube bn then 0 else 101)) :
    Calls Try.prog 14 #[recV k ns tube (.slice bp bn bc)] w fun e w' => e = .returned (.int .i64 r) ∧ Fr (fun _ => False) w w' := by
  have hg := heap_alloc_eq w (.cells (recC k ns tube (.slice bp bn bc)) 29)
  have c0 : (w.alloc (.cells (recC k ns tube (.slice bp bn bc)) 29)).cell? ⟨w.heap.size, 0, none⟩ = some (.int .i64 k) := cell_is hg 0 rfl
  have hsz : (recC k ns tube (.slice bp bn bc)).size = 19 := rfl
  have hi29 : (Try.prog.info? 29).map (·.size) = some (recC k ns tube (.slice bp bn bc)).size := info29s
  have HRV : Hid (Value.agg (recC k ns tube (.slice bp bn bc)) = recV k ns tube (.slice bp bn bc)) := Lib.hid rfl
  have hcell : Hid (∀ w' : World, w'.heap[w.heap.size]? = some (.cells (recC k ns tube (.slice bp bn bc)) 29 (0, 0)) → w'.cell? ⟨w.heap.size, 0, none⟩ = some (.int .i64 k) ∧ w'.cell? ⟨w.heap.size, 17, none⟩ = some (.string tube) ∧ w'.cell? ⟨w.heap.size, 18, none⟩ = some (.slice bp bn bc)) := Lib.hid (fun w' h => ⟨cell_is h 0 rfl, cell_is h 17 rfl, cell_is h 18 rfl⟩)
  have HG := Lib.hid hg
  have HNUM : Hid (∀ w' : World, Calls Try.prog 29 #[.agg (recC k ns tube (.slice bp bn bc))] w' fun e w'' => e = .returned (.agg (ns.map iv).toArray) ∧ Fr (fun _ => False) w' w'') := Lib.hid (fun w' => numbersOf_any k ns tube bp bn bc w' hl)
  have hnil := nil51
  have HVA := Lib.hid (fun w' : World => valid_any tube w')
  have hf0 : Fr (fun _ => False) w (w.alloc (.cells (recC k ns tube (.slice bp bn bc)) 29)) := (Fr.refl _ w).alloc _
  have HF0 := Lib.hid hf0
  clear hg hf0
  unfold recV
  generalize recC k ns tube (.slice bp bn bc) = rc at *
  go_enter Try.func14, Try.ntmps14
  go_wp2_with (fail)
  refine (of_yes k _ hk).mono ?_
  rintro e w1 ⟨rfl, rfl⟩
  have HROW := Lib.hid (ofList_row hk (w.alloc (.cells rc 29)))
  have hf1 : Fr (fun _ => False) (w.alloc (.cells rc 29)) ((w.alloc (.cells rc 29)).alloc (.cells ((ofList k).map natV).toArray 3)) := (Fr.refl _ _).alloc _
  have HG1 := Lib.hid (hf1.get HG.out id)
  have HF1 := Lib.hid (HF0.out.trans hf1 (fun _ _ h => h))
  have hbl : w.heap.size < ((w.alloc (.cells rc 29)).alloc (.cells ((ofList k).map natV).toArray 3)).heap.size := by simp; omega
  clear hf1 c0 HG HF0
  generalize ((w.alloc (.cells rc 29)).alloc (.cells ((ofList k).map natV).toArray 3)) = w1 at *
  generalize hll : (ofList k).length = ll at *
  generalize (w.alloc (.cells rc 29)).heap.size = b3 at *
  have HLL := Lib.hid hll
  clear hll
  obtain ⟨c0, c17, c18⟩ := hcell.out w1 HG1.out
  go_wp2_with ((refine load_guard _ _ rfl ?_); refine wpList_load_row rfl 29 _ rfl w.heap.size rfl 29 _ (0, 0) _ HG1.out Try.underlying29 rfl hi29 ?_)
  refine (HNUM.out w1).mono ?_
  rintro e w2 ⟨rfl, hf2⟩
  have HF2 := Lib.hid (HF1.out.trans hf2 (fun _ _ h => h))
  have HG2 := Lib.hid (hf2.get HG1.out id)
  have HROW2 := Lib.hid (HROW.out.fr hf2)
  have hlt2 : w.heap.size < w2.heap.size := lt_of_heap HG2.out
  clear hf2 c0 c17 c18 HG1 HROW HF1
  have hi := info54o hl
  have hs16 : (ns.map iv).toArray.size = 16 := by simp [hl]
  go_wp2_with (first | ((refine store_guard _ _ _ _ rfl ?_); refine wpList_store_agg _ rfl _ _ 54 rfl w2.heap.size 54 _ (ns.map iv).toArray rfl rfl hi (heap_alloc_eq _ _) hs16.symm (iv_one ns) ?_; intro w3 hw3 hf3; have hf23 : Fr (fun _ => False) w2 w3 := ((Fr.refl _ w2).alloc _).trans hf3 (fun i hi h => absurd hi (by omega)); have HF3 := Lib.hid (HF2.out.trans hf23 (fun _ _ h => h)); have hg3 := hf23.get HG2.out id; have HG3 := Lib.hid hg3; obtain ⟨c0, c17, c18⟩ := hcell.out w3 hg3; have HROW3 := Lib.hid (HROW2.out.fr hf23); have HW3 := Lib.hid hw3; clear hw3 hf3 hf23 hg3 HF2 HG2 HROW2; generalize hq4 : w2.heap.size = b4 at *) | (refine (HVA.out _).mono ?_; rintro e w3' ⟨rfl, rfl⟩; rw [hv]))
  have heq := eq54 ns (onlyL ns (ofList k)) hl (onlyTo_length _ _ _)
  have hld : ∀ w' : World, Fr (fun _ => False) w3 w' → w'.rangeAt b4 0 (ns.map iv) := fun w' h j v hv => by
    rw [Nat.zero_add]
    exact cell_is (h.get HW3.out id) j (by simpa using hv)
  have hiL : (Try.prog.info? 54).map (·.size) = some (ns.map iv).length := by rw [info54s]; simp [hl]
  refine wp_region_held_drew (S := fun w' => Fr (fun _ => False) w3 w') (by kernel_rfl) ((Fr.refl _ _).drew) (fun hS1 => ?_)
  refine wpAnyH_take (i := 0) (v := (.agg (ns.map iv).toArray)) rfl (by kernel_rfl) (by kernel_rfl) (by kernel_rfl) (fun _ _ _ h => h) (yieldsIf_load_mid (by rfl) 54 _ rfl b4 0 rfl (ns.map iv) _ (fun w' hS => hld w' hS) Try.underlying54 rfl hiL) hS1 ?_
  try simp only [Act.put, List.getElem_toArray, List.getElem_cons_zero, List.setIfInBounds_toArray, List.set_cons_zero, List.set_cons_succ]
  refine wpAnyH_take (i := 1) (v := (.agg (ns.map iv).toArray)) rfl (by kernel_rfl) (by kernel_rfl) (by kernel_rfl) (fun _ _ _ h => h) (yieldsIf_load_mid (by rfl) 54 _ rfl b4 0 rfl (ns.map iv) _ (fun w' hS => hld w' hS) Try.underlying54 rfl hiL) hS1 ?_
  try simp only [Act.put, List.getElem_toArray, List.getElem_cons_zero, List.getElem_cons_succ, List.setIfInBounds_toArray, List.set_cons_zero, List.set_cons_succ]
  refine wpAnyH_take (i := 2) (v := (.slice (some ⟨b3, 0, none⟩) ll ll)) rfl (by kernel_rfl) (by kernel_rfl) (by kernel_rfl) (fun _ _ _ h => h) (Or.inl ⟨by rfl, fun w' hS => by go_simp⟩) hS1 ?_
  try simp only [Act.put, List.getElem_toArray, List.getElem_cons_zero, List.getElem_cons_succ, List.setIfInBounds_toArray, List.set_cons_zero, List.set_cons_succ]
  refine wpAnyH_ready (rs := [3]) (by kernel_rfl) (by simp) ?_
  refine AllReadyH.cons rfl (fun K hK => ?_) AllReadyH.nil
  rw [if_pos (by rfl)]
  go_simp
  refine (only_any ns (ofList k) _ w3.drew hl (HROW3.out.fr hS1)).mono ?_
  rintro e w5 ⟨rfl, hf⟩
  refine hK.out _ _ (Fr.trans hS1 hf (fun _ _ h => h)) (fun hS2 => ?_)
  clear hK K hf
  try simp only [Act.put, List.getElem_toArray, List.getElem_cons_zero, List.getElem_cons_succ, List.setIfInBounds_toArray, List.set_cons_zero, List.set_cons_succ]
  cases hb : (ns == onlyL ns (ofList k))
  · rw [hb] at heq
    have he : okB k ns tube bn = false := by unfold okB; rw [hb]; rfl
    have HE := Lib.hid he
    clear he
    refine wpAnyH_take (i := 4) (v := (.bool true)) rfl (by kernel_rfl) (by kernel_rfl) (by kernel_rfl) (fun _ _ _ h => h) (Or.inl ⟨by rfl, fun w' hS => by go_simp⟩) hS2 ?_
    try simp only [Act.put, List.getElem_toArray, List.getElem_cons_zero, List.getElem_cons_succ, List.setIfInBounds_toArray, List.set_cons_zero, List.set_cons_succ]
    refine wpAnyH_take (i := 5) (v := (.bool true)) rfl (by kernel_rfl) (by kernel_rfl) (by kernel_rfl) (fun _ _ _ h => h) (Or.inl ⟨by rfl, fun w' hS => by go_simp⟩) hS2 ?_
    try simp only [Act.put, List.getElem_toArray, List.getElem_cons_zero, List.getElem_cons_succ, List.setIfInBounds_toArray, List.set_cons_zero, List.set_cons_succ]
    refine wpAnyH_take (i := 6) (v := undef) rfl (by kernel_rfl) (by kernel_rfl) (by kernel_rfl) (fun _ _ _ h => h) (Or.inr ⟨by rfl, rfl⟩) hS2 ?_
    try simp only [Act.put, List.getElem_toArray, List.getElem_cons_zero, List.getElem_cons_succ, List.setIfInBounds_toArray, List.set_cons_zero, List.set_cons_succ]
    refine wpAnyH_take (i := 7) (v := undef) rfl (by kernel_rfl) (by kernel_rfl) (by kernel_rfl) (fun _ _ _ h => h) (Or.inr ⟨by rfl, rfl⟩) hS2 ?_
    try simp only [Act.put, List.getElem_toArray, List.getElem_cons_zero, List.getElem_cons_succ, List.setIfInBounds_toArray, List.set_cons_zero, List.set_cons_succ]
    refine wpAnyH_take (i := 8) (v := undef) rfl (by kernel_rfl) (by kernel_rfl) (by kernel_rfl) (fun _ _ _ h => h) (Or.inr ⟨by rfl, rfl⟩) hS2 ?_
    try simp only [Act.put, List.getElem_toArray, List.getElem_cons_zero, List.getElem_cons_succ, List.setIfInBounds_toArray, List.set_cons_zero, List.set_cons_succ]
    refine wpAnyH_ready (rs := [9]) (by kernel_rfl) (by simp) ?_
    refine AllReadyH.cons rfl (fun K hK => ?_) AllReadyH.nil
    rw [if_neg (by exact fun h => nomatch (show false = true from h))]
    refine hK.out _ _ hS2 (fun _ => ?_)
    clear hK K
    try simp only [Act.put, List.getElem_toArray, List.getElem_cons_zero, List.getElem_cons_succ, List.setIfInBounds_toArray, List.set_cons_zero, List.set_cons_succ]
    refine wpAnyH_take (i := 10) (v := undef) rfl (by kernel_rfl) (by kernel_rfl) (by kernel_rfl) (fun _ _ _ h => h) (Or.inr ⟨by rfl, rfl⟩) hS2 ?_
    try simp only [Act.put, List.getElem_toArray, List.getElem_cons_zero, List.getElem_cons_succ, List.setIfInBounds_toArray, List.set_cons_zero, List.set_cons_succ]
    refine wpAnyH_take (i := 11) (v := (.bool true)) rfl (by kernel_rfl) (by kernel_rfl) (by kernel_rfl) (fun _ _ _ h => h) (Or.inl ⟨by rfl, fun w' hS => by go_simp⟩) hS2 ?_
    try simp only [Act.put, List.getElem_toArray, List.getElem_cons_zero, List.getElem_cons_succ, List.setIfInBounds_toArray, List.set_cons_zero, List.set_cons_succ]
    refine wpAnyH_take (i := 12) (v := (.bool true)) rfl (by kernel_rfl) (by kernel_rfl) (by kernel_rfl) (fun _ _ _ h => h) (Or.inl ⟨by rfl, fun w' hS => by go_simp⟩) hS2 ?_
    try simp only [Act.put, List.getElem_toArray, List.getElem_cons_zero, List.getElem_cons_succ, List.setIfInBounds_toArray, List.set_cons_zero, List.set_cons_succ]
    refine wpAnyH_take (i := 13) (v := undef) rfl (by kernel_rfl) (by kernel_rfl) (by kernel_rfl) (fun _ _ _ h => h) (Or.inr ⟨by rfl, rfl⟩) hS2 ?_
    try simp only [Act.put, List.getElem_toArray, List.getElem_cons_zero, List.getElem_cons_succ, List.setIfInBounds_toArray, List.set_cons_zero, List.set_cons_succ]
    refine wpAnyH_take (i := 14) (v := undef) rfl (by kernel_rfl) (by kernel_rfl) (by kernel_rfl) (fun _ _ _ h => h) (Or.inr ⟨by rfl, rfl⟩) hS2 ?_
    try simp only [Act.put, List.getElem_toArray, List.getElem_cons_zero, List.getElem_cons_succ, List.setIfInBounds_toArray, List.set_cons_zero, List.set_cons_succ]
    refine wpAnyH_take (i := 15) (v := (.bool true)) rfl (by kernel_rfl) (by kernel_rfl) (by kernel_rfl) (fun _ _ _ h => h) (Or.inl ⟨by rfl, fun w' hS => by go_simp⟩) hS2 ?_
    try simp only [Act.put, List.getElem_toArray, List.getElem_cons_zero, List.getElem_cons_succ, List.setIfInBounds_toArray, List.set_cons_zero, List.set_cons_succ]
    have hS9 := hS2
    refine wpAnyH_done (by kernel_rfl) ?_ _
    go_wp2_with (fail)
    go_ret
    exact ⟨by rw [HR.out, HE.out]; rfl, HF3.out.trans hS9 (fun _ _ h => h)⟩
  · rw [hb] at heq
    refine wpAnyH_take (i := 4) (v := (.bool false)) rfl (by kernel_rfl) (by kernel_rfl) (by kernel_rfl) (fun _ _ _ h => h) (Or.inl ⟨by rfl, fun w' hS => by go_simp⟩) hS2 ?_
    try simp only [Act.put, List.getElem_toArray, List.getElem_cons_zero, List.getElem_cons_succ, List.setIfInBounds_toArray, List.set_cons_zero, List.set_cons_succ]
    refine wpAnyH_take (i := 5) (v := (.bool false)) rfl (by kernel_rfl) (by kernel_rfl) (by kernel_rfl) (fun _ _ _ h => h) (Or.inl ⟨by rfl, fun w' hS => by go_simp⟩) hS2 ?_
    try simp only [Act.put, List.getElem_toArray, List.getElem_cons_zero, List.getElem_cons_succ, List.setIfInBounds_toArray, List.set_cons_zero, List.set_cons_succ]
    refine wpAnyH_take (i := 6) (v := (.agg (ns.map iv).toArray)) rfl (by kernel_rfl) (by kernel_rfl) (by kernel_rfl) (fun _ _ _ h => h) (yieldsIf_load_mid (by rfl) 54 _ rfl b4 0 rfl (ns.map iv) _ (fun w' hS => hld w' hS) Try.underlying54 rfl hiL) hS2 ?_
    try simp only [Act.put, List.getElem_toArray, List.getElem_cons_zero, List.getElem_cons_succ, List.setIfInBounds_toArray, List.set_cons_zero, List.set_cons_succ]
    refine wpAnyH_take (i := 7) (v := (.pointer (some ⟨w.heap.size, 0, none⟩))) rfl (by kernel_rfl) (by kernel_rfl) (by kernel_rfl) (fun _ _ _ h => h) (Or.inl ⟨by rfl, fun w' hS => by go_simp⟩) hS2 ?_
    try simp only [Act.put, List.getElem_toArray, List.getElem_cons_zero, List.getElem_cons_succ, List.setIfInBounds_toArray, List.set_cons_zero, List.set_cons_succ]
    refine wpAnyH_take (i := 8) (v := (.int .i64 k)) rfl (by kernel_rfl) (by kernel_rfl) (by kernel_rfl) (fun _ _ _ h => h) (Or.inl ⟨by rfl, fun w' hS => by have c := cell_fr' hS c0; go_simp⟩) hS2 ?_
    try simp only [Act.put, List.getElem_toArray, List.getElem_cons_zero, List.getElem_cons_succ, List.setIfInBounds_toArray, List.set_cons_zero, List.set_cons_succ]
    refine wpAnyH_ready (rs := [9]) (by kernel_rfl) (by simp) ?_
    refine AllReadyH.cons rfl (fun K hK => ?_) AllReadyH.nil
    rw [if_pos (by rfl)]
    go_simp
    refine (mayN_any ns k w5 hl hk).mono ?_
    rintro e w6 ⟨rfl, hf⟩
    refine hK.out _ _ (Fr.trans hS2 hf (fun _ _ h => h)) (fun hS3 => ?_)
    clear hK K hf
    try simp only [Act.put, List.getElem_toArray, List.getElem_cons_zero, List.getElem_cons_succ, List.setIfInBounds_toArray, List.set_cons_zero, List.set_cons_succ]
    cases hm : mayB ns k
    · have he : okB k ns tube bn = false := by unfold okB; rw [hb, hm]; rfl
      have HE := Lib.hid he
      clear he
      refine wpAnyH_take (i := 10) (v := (.bool true)) rfl (by kernel_rfl) (by kernel_rfl) (by kernel_rfl) (fun _ _ _ h => h) (Or.inl ⟨by rfl, fun w' hS => by go_simp⟩) hS3 ?_
      try simp only [Act.put, List.getElem_toArray, List.getElem_cons_zero, List.getElem_cons_succ, List.setIfInBounds_toArray, List.set_cons_zero, List.set_cons_succ]
      refine wpAnyH_take (i := 11) (v := (.bool true)) rfl (by kernel_rfl) (by kernel_rfl) (by kernel_rfl) (fun _ _ _ h => h) (Or.inl ⟨by rfl, fun w' hS => by go_simp⟩) hS3 ?_
      try simp only [Act.put, List.getElem_toArray, List.getElem_cons_zero, List.getElem_cons_succ, List.setIfInBounds_toArray, List.set_cons_zero, List.set_cons_succ]
      refine wpAnyH_take (i := 12) (v := (.bool true)) rfl (by kernel_rfl) (by kernel_rfl) (by kernel_rfl) (fun _ _ _ h => h) (Or.inl ⟨by rfl, fun w' hS => by go_simp⟩) hS3 ?_
      try simp only [Act.put, List.getElem_toArray, List.getElem_cons_zero, List.getElem_cons_succ, List.setIfInBounds_toArray, List.set_cons_zero, List.set_cons_succ]
      refine wpAnyH_take (i := 13) (v := undef) rfl (by kernel_rfl) (by kernel_rfl) (by kernel_rfl) (fun _ _ _ h => h) (Or.inr ⟨by rfl, rfl⟩) hS3 ?_
      try simp only [Act.put, List.getElem_toArray, List.getElem_cons_zero, List.getElem_cons_succ, List.setIfInBounds_toArray, List.set_cons_zero, List.set_cons_succ]
      refine wpAnyH_take (i := 14) (v := undef) rfl (by kernel_rfl) (by kernel_rfl) (by kernel_rfl) (fun _ _ _ h => h) (Or.inr ⟨by rfl, rfl⟩) hS3 ?_
      try simp only [Act.put, List.getElem_toArray, List.getElem_cons_zero, List.getElem_cons_succ, List.setIfInBounds_toArray, List.set_cons_zero, List.set_cons_succ]
      refine wpAnyH_take (i := 15) (v := (.bool true)) rfl (by kernel_rfl) (by kernel_rfl) (by kernel_rfl) (fun _ _ _ h => h) (Or.inl ⟨by rfl, fun w' hS => by go_simp⟩) hS3 ?_
      try simp only [Act.put, List.getElem_toArray, List.getElem_cons_zero, List.getElem_cons_succ, List.setIfInBounds_toArray, List.set_cons_zero, List.set_cons_succ]
      have hS9 := hS3
      refine wpAnyH_done (by kernel_rfl) ?_ _
      go_wp2_with (fail)
      go_ret
      exact ⟨by rw [HR.out, HE.out]; rfl, HF3.out.trans hS9 (fun _ _ h => h)⟩
    · refine wpAnyH_take (i := 10) (v := (.bool false)) rfl (by kernel_rfl) (by kernel_rfl) (by kernel_rfl) (fun _ _ _ h => h) (Or.inl ⟨by rfl, fun w' hS => by go_simp⟩) hS3 ?_
      try simp only [Act.put, List.getElem_toArray, List.getElem_cons_zero, List.getElem_cons_succ, List.setIfInBounds_toArray, List.set_cons_zero, List.set_cons_succ]
      refine wpAnyH_take (i := 11) (v := (.bool false)) rfl (by kernel_rfl) (by kernel_rfl) (by kernel_rfl) (fun _ _ _ h => h) (Or.inl ⟨by rfl, fun w' hS => by go_simp⟩) hS3 ?_
      try simp only [Act.put, List.getElem_toArray, List.getElem_cons_zero, List.getElem_cons_succ, List.setIfInBounds_toArray, List.set_cons_zero, List.set_cons_succ]
      refine wpAnyH_take (i := 12) (v := (.bool false)) rfl (by kernel_rfl) (by kernel_rfl) (by kernel_rfl) (fun _ _ _ h => h) (Or.inl ⟨by rfl, fun w' hS => by go_simp⟩) hS3 ?_
      try simp only [Act.put, List.getElem_toArray, List.getElem_cons_zero, List.getElem_cons_succ, List.setIfInBounds_toArray, List.set_cons_zero, List.set_cons_succ]
      cases hz : (decide ((bn : Int) ≤ 65535))
      · have HT : Hid (textsB k tube bn = false) := Lib.hid (by unfold textsB; rw [if_pos (by simpa using h2)]; rw [hv, hz]; rfl)
        have he : okB k ns tube bn = false := by unfold okB; rw [hb, hm, HT.out]; rfl
        have HE := Lib.hid he
        clear he
        refine wpAnyH_take (i := 13) (v := (.bool false)) rfl (by kernel_rfl) (by kernel_rfl) (by kernel_rfl) (fun _ _ _ h => h) (Or.inl ⟨by rfl, fun w' hS => by go_simp⟩) hS3 ?_
        try simp only [Act.put, List.getElem_toArray, List.getElem_cons_zero, List.getElem_cons_succ, List.setIfInBounds_toArray, List.set_cons_zero, List.set_cons_succ]
        refine wpAnyH_take (i := 14) (v := (.bool true)) rfl (by kernel_rfl) (by kernel_rfl) (by kernel_rfl) (fun _ _ _ h => h) (Or.inl ⟨by rfl, fun w' hS => by go_simp⟩) hS3 ?_
        try simp only [Act.put, List.getElem_toArray, List.getElem_cons_zero, List.getElem_cons_succ, List.setIfInBounds_toArray, List.set_cons_zero, List.set_cons_succ]
        refine wpAnyH_take (i := 15) (v := (.bool true)) rfl (by kernel_rfl) (by kernel_rfl) (by kernel_rfl) (fun _ _ _ h => h) (Or.inl ⟨by rfl, fun w' hS => by go_simp⟩) hS3 ?_
        try simp only [Act.put, List.getElem_toArray, List.getElem_cons_zero, List.getElem_cons_succ, List.setIfInBounds_toArray, List.set_cons_zero, List.set_cons_succ]
        have hS9 := hS3
        refine wpAnyH_done (by kernel_rfl) ?_ _
        go_wp2_with (fail)
        go_ret
        exact ⟨by rw [HR.out, HE.out]; rfl, HF3.out.trans hS9 (fun _ _ h => h)⟩
      · have HT : Hid (textsB k tube bn = true) := Lib.hid (by unfold textsB; rw [if_pos (by simpa using h2)]; rw [hv, hz]; rfl)
        have he : okB k ns tube bn = true := by unfold okB; rw [hb, hm, HT.out]; rfl
        have HE := Lib.hid he
        clear he
        refine wpAnyH_take (i := 13) (v := (.bool true)) rfl (by kernel_rfl) (by kernel_rfl) (by kernel_rfl) (fun _ _ _ h => h) (Or.inl ⟨by rfl, fun w' hS => by go_simp⟩) hS3 ?_
        try simp only [Act.put, List.getElem_toArray, List.getElem_cons_zero, List.getElem_cons_succ, List.setIfInBounds_toArray, List.set_cons_zero, List.set_cons_succ]
        refine wpAnyH_take (i := 14) (v := (.bool false)) rfl (by kernel_rfl) (by kernel_rfl) (by kernel_rfl) (fun _ _ _ h => h) (Or.inl ⟨by rfl, fun w' hS => by go_simp⟩) hS3 ?_
        try simp only [Act.put, List.getElem_toArray, List.getElem_cons_zero, List.getElem_cons_succ, List.setIfInBounds_toArray, List.set_cons_zero, List.set_cons_succ]
        refine wpAnyH_take (i := 15) (v := (.bool false)) rfl (by kernel_rfl) (by kernel_rfl) (by kernel_rfl) (fun _ _ _ h => h) (Or.inl ⟨by rfl, fun w' hS => by go_simp⟩) hS3 ?_
        try simp only [Act.put, List.getElem_toArray, List.getElem_cons_zero, List.getElem_cons_succ, List.setIfInBounds_toArray, List.set_cons_zero, List.set_cons_succ]
        have hS9 := hS3
        refine wpAnyH_done (by kernel_rfl) ?_ _
        go_wp2_with (fail)
        go_ret
        exact ⟨by rw [HR.out, HE.out]; rfl, HF3.out.trans hS9 (fun _ _ h => h)⟩

set_option maxRecDepth 100000 in
set_option maxHeartbeats 4000000 in
theorem check_Ct (k : Int) (ns : List Int) (tube : ByteArray) (bp : Option Addr) (bn bc : Nat) (w : World) (hl : ns.length = 16) (hk : Kind k) (ht : tube.toList.isEmpty = true) (h2 : (k == 2) = true) (hv : validB tube = false) (r : Int) (HR : Hid (r = if okB k ns tube bn then 0 else 101)) :
    Calls Try.prog 14 #[recV k ns tube (.slice bp bn bc)] w fun e w' => e = .returned (.int .i64 r) ∧ Fr (fun _ => False) w w' := by
  have hg := heap_alloc_eq w (.cells (recC k ns tube (.slice bp bn bc)) 29)
  have c0 : (w.alloc (.cells (recC k ns tube (.slice bp bn bc)) 29)).cell? ⟨w.heap.size, 0, none⟩ = some (.int .i64 k) := cell_is hg 0 rfl
  have hsz : (recC k ns tube (.slice bp bn bc)).size = 19 := rfl
  have hi29 : (Try.prog.info? 29).map (·.size) = some (recC k ns tube (.slice bp bn bc)).size := info29s
  have HRV : Hid (Value.agg (recC k ns tube (.slice bp bn bc)) = recV k ns tube (.slice bp bn bc)) := Lib.hid rfl
  have hcell : Hid (∀ w' : World, w'.heap[w.heap.size]? = some (.cells (recC k ns tube (.slice bp bn bc)) 29 (0, 0)) → w'.cell? ⟨w.heap.size, 0, none⟩ = some (.int .i64 k) ∧ w'.cell? ⟨w.heap.size, 17, none⟩ = some (.string tube) ∧ w'.cell? ⟨w.heap.size, 18, none⟩ = some (.slice bp bn bc)) := Lib.hid (fun w' h => ⟨cell_is h 0 rfl, cell_is h 17 rfl, cell_is h 18 rfl⟩)
  have HG := Lib.hid hg
  have HNUM : Hid (∀ w' : World, Calls Try.prog 29 #[.agg (recC k ns tube (.slice bp bn bc))] w' fun e w'' => e = .returned (.agg (ns.map iv).toArray) ∧ Fr (fun _ => False) w' w'') := Lib.hid (fun w' => numbersOf_any k ns tube bp bn bc w' hl)
  have hnil := nil51
  have HVA := Lib.hid (fun w' : World => valid_any tube w')
  have hf0 : Fr (fun _ => False) w (w.alloc (.cells (recC k ns tube (.slice bp bn bc)) 29)) := (Fr.refl _ w).alloc _
  have HF0 := Lib.hid hf0
  clear hg hf0
  unfold recV
  generalize recC k ns tube (.slice bp bn bc) = rc at *
  go_enter Try.func14, Try.ntmps14
  go_wp2_with (fail)
  refine (of_yes k _ hk).mono ?_
  rintro e w1 ⟨rfl, rfl⟩
  have HROW := Lib.hid (ofList_row hk (w.alloc (.cells rc 29)))
  have hf1 : Fr (fun _ => False) (w.alloc (.cells rc 29)) ((w.alloc (.cells rc 29)).alloc (.cells ((ofList k).map natV).toArray 3)) := (Fr.refl _ _).alloc _
  have HG1 := Lib.hid (hf1.get HG.out id)
  have HF1 := Lib.hid (HF0.out.trans hf1 (fun _ _ h => h))
  have hbl : w.heap.size < ((w.alloc (.cells rc 29)).alloc (.cells ((ofList k).map natV).toArray 3)).heap.size := by simp; omega
  clear hf1 c0 HG HF0
  generalize ((w.alloc (.cells rc 29)).alloc (.cells ((ofList k).map natV).toArray 3)) = w1 at *
  generalize hll : (ofList k).length = ll at *
  generalize (w.alloc (.cells rc 29)).heap.size = b3 at *
  have HLL := Lib.hid hll
  clear hll
  obtain ⟨c0, c17, c18⟩ := hcell.out w1 HG1.out
  go_wp2_with ((refine load_guard _ _ rfl ?_); refine wpList_load_row rfl 29 _ rfl w.heap.size rfl 29 _ (0, 0) _ HG1.out Try.underlying29 rfl hi29 ?_)
  refine (HNUM.out w1).mono ?_
  rintro e w2 ⟨rfl, hf2⟩
  have HF2 := Lib.hid (HF1.out.trans hf2 (fun _ _ h => h))
  have HG2 := Lib.hid (hf2.get HG1.out id)
  have HROW2 := Lib.hid (HROW.out.fr hf2)
  have hlt2 : w.heap.size < w2.heap.size := lt_of_heap HG2.out
  clear hf2 c0 c17 c18 HG1 HROW HF1
  have hi := info54o hl
  have hs16 : (ns.map iv).toArray.size = 16 := by simp [hl]
  go_wp2_with (first | ((refine store_guard _ _ _ _ rfl ?_); refine wpList_store_agg _ rfl _ _ 54 rfl w2.heap.size 54 _ (ns.map iv).toArray rfl rfl hi (heap_alloc_eq _ _) hs16.symm (iv_one ns) ?_; intro w3 hw3 hf3; have hf23 : Fr (fun _ => False) w2 w3 := ((Fr.refl _ w2).alloc _).trans hf3 (fun i hi h => absurd hi (by omega)); have HF3 := Lib.hid (HF2.out.trans hf23 (fun _ _ h => h)); have hg3 := hf23.get HG2.out id; have HG3 := Lib.hid hg3; obtain ⟨c0, c17, c18⟩ := hcell.out w3 hg3; have HROW3 := Lib.hid (HROW2.out.fr hf23); have HW3 := Lib.hid hw3; clear hw3 hf3 hf23 hg3 HF2 HG2 HROW2; generalize hq4 : w2.heap.size = b4 at *) | (refine (HVA.out _).mono ?_; rintro e w3' ⟨rfl, rfl⟩; rw [hv]))
  have heq := eq54 ns (onlyL ns (ofList k)) hl (onlyTo_length _ _ _)
  have hld : ∀ w' : World, Fr (fun _ => False) w3 w' → w'.rangeAt b4 0 (ns.map iv) := fun w' h j v hv => by
    rw [Nat.zero_add]
    exact cell_is (h.get HW3.out id) j (by simpa using hv)
  have hiL : (Try.prog.info? 54).map (·.size) = some (ns.map iv).length := by rw [info54s]; simp [hl]
  refine wp_region_held_drew (S := fun w' => Fr (fun _ => False) w3 w') (by kernel_rfl) ((Fr.refl _ _).drew) (fun hS1 => ?_)
  refine wpAnyH_take (i := 0) (v := (.agg (ns.map iv).toArray)) rfl (by kernel_rfl) (by kernel_rfl) (by kernel_rfl) (fun _ _ _ h => h) (yieldsIf_load_mid (by rfl) 54 _ rfl b4 0 rfl (ns.map iv) _ (fun w' hS => hld w' hS) Try.underlying54 rfl hiL) hS1 ?_
  try simp only [Act.put, List.getElem_toArray, List.getElem_cons_zero, List.setIfInBounds_toArray, List.set_cons_zero, List.set_cons_succ]
  refine wpAnyH_take (i := 1) (v := (.agg (ns.map iv).toArray)) rfl (by kernel_rfl) (by kernel_rfl) (by kernel_rfl) (fun _ _ _ h => h) (yieldsIf_load_mid (by rfl) 54 _ rfl b4 0 rfl (ns.map iv) _ (fun w' hS => hld w' hS) Try.underlying54 rfl hiL) hS1 ?_
  try simp only [Act.put, List.getElem_toArray, List.getElem_cons_zero, List.getElem_cons_succ, List.setIfInBounds_toArray, List.set_cons_zero, List.set_cons_succ]
  refine wpAnyH_take (i := 2) (v := (.slice (some ⟨b3, 0, none⟩) ll ll)) rfl (by kernel_rfl) (by kernel_rfl) (by kernel_rfl) (fun _ _ _ h => h) (Or.inl ⟨by rfl, fun w' hS => by go_simp⟩) hS1 ?_
  try simp only [Act.put, List.getElem_toArray, List.getElem_cons_zero, List.getElem_cons_succ, List.setIfInBounds_toArray, List.set_cons_zero, List.set_cons_succ]
  refine wpAnyH_ready (rs := [3]) (by kernel_rfl) (by simp) ?_
  refine AllReadyH.cons rfl (fun K hK => ?_) AllReadyH.nil
  rw [if_pos (by rfl)]
  go_simp
  refine (only_any ns (ofList k) _ w3.drew hl (HROW3.out.fr hS1)).mono ?_
  rintro e w5 ⟨rfl, hf⟩
  refine hK.out _ _ (Fr.trans hS1 hf (fun _ _ h => h)) (fun hS2 => ?_)
  clear hK K hf
  try simp only [Act.put, List.getElem_toArray, List.getElem_cons_zero, List.getElem_cons_succ, List.setIfInBounds_toArray, List.set_cons_zero, List.set_cons_succ]
  cases hb : (ns == onlyL ns (ofList k))
  · rw [hb] at heq
    have he : okB k ns tube bn = false := by unfold okB; rw [hb]; rfl
    have HE := Lib.hid he
    clear he
    refine wpAnyH_take (i := 4) (v := (.bool true)) rfl (by kernel_rfl) (by kernel_rfl) (by kernel_rfl) (fun _ _ _ h => h) (Or.inl ⟨by rfl, fun w' hS => by go_simp⟩) hS2 ?_
    try simp only [Act.put, List.getElem_toArray, List.getElem_cons_zero, List.getElem_cons_succ, List.setIfInBounds_toArray, List.set_cons_zero, List.set_cons_succ]
    refine wpAnyH_take (i := 5) (v := (.bool true)) rfl (by kernel_rfl) (by kernel_rfl) (by kernel_rfl) (fun _ _ _ h => h) (Or.inl ⟨by rfl, fun w' hS => by go_simp⟩) hS2 ?_
    try simp only [Act.put, List.getElem_toArray, List.getElem_cons_zero, List.getElem_cons_succ, List.setIfInBounds_toArray, List.set_cons_zero, List.set_cons_succ]
    refine wpAnyH_take (i := 6) (v := undef) rfl (by kernel_rfl) (by kernel_rfl) (by kernel_rfl) (fun _ _ _ h => h) (Or.inr ⟨by rfl, rfl⟩) hS2 ?_
    try simp only [Act.put, List.getElem_toArray, List.getElem_cons_zero, List.getElem_cons_succ, List.setIfInBounds_toArray, List.set_cons_zero, List.set_cons_succ]
    refine wpAnyH_take (i := 7) (v := undef) rfl (by kernel_rfl) (by kernel_rfl) (by kernel_rfl) (fun _ _ _ h => h) (Or.inr ⟨by rfl, rfl⟩) hS2 ?_
    try simp only [Act.put, List.getElem_toArray, List.getElem_cons_zero, List.getElem_cons_succ, List.setIfInBounds_toArray, List.set_cons_zero, List.set_cons_succ]
    refine wpAnyH_take (i := 8) (v := undef) rfl (by kernel_rfl) (by kernel_rfl) (by kernel_rfl) (fun _ _ _ h => h) (Or.inr ⟨by rfl, rfl⟩) hS2 ?_
    try simp only [Act.put, List.getElem_toArray, List.getElem_cons_zero, List.getElem_cons_succ, List.setIfInBounds_toArray, List.set_cons_zero, List.set_cons_succ]
    refine wpAnyH_ready (rs := [9]) (by kernel_rfl) (by simp) ?_
    refine AllReadyH.cons rfl (fun K hK => ?_) AllReadyH.nil
    rw [if_neg (by exact fun h => nomatch (show false = true from h))]
    refine hK.out _ _ hS2 (fun _ => ?_)
    clear hK K
    try simp only [Act.put, List.getElem_toArray, List.getElem_cons_zero, List.getElem_cons_succ, List.setIfInBounds_toArray, List.set_cons_zero, List.set_cons_succ]
    refine wpAnyH_take (i := 10) (v := undef) rfl (by kernel_rfl) (by kernel_rfl) (by kernel_rfl) (fun _ _ _ h => h) (Or.inr ⟨by rfl, rfl⟩) hS2 ?_
    try simp only [Act.put, List.getElem_toArray, List.getElem_cons_zero, List.getElem_cons_succ, List.setIfInBounds_toArray, List.set_cons_zero, List.set_cons_succ]
    refine wpAnyH_take (i := 11) (v := (.bool true)) rfl (by kernel_rfl) (by kernel_rfl) (by kernel_rfl) (fun _ _ _ h => h) (Or.inl ⟨by rfl, fun w' hS => by go_simp⟩) hS2 ?_
    try simp only [Act.put, List.getElem_toArray, List.getElem_cons_zero, List.getElem_cons_succ, List.setIfInBounds_toArray, List.set_cons_zero, List.set_cons_succ]
    refine wpAnyH_take (i := 12) (v := (.bool true)) rfl (by kernel_rfl) (by kernel_rfl) (by kernel_rfl) (fun _ _ _ h => h) (Or.inl ⟨by rfl, fun w' hS => by go_simp⟩) hS2 ?_
    try simp only [Act.put, List.getElem_toArray, List.getElem_cons_zero, List.getElem_cons_succ, List.setIfInBounds_toArray, List.set_cons_zero, List.set_cons_succ]
    refine wpAnyH_take (i := 13) (v := undef) rfl (by kernel_rfl) (by kernel_rfl) (by kernel_rfl) (fun _ _ _ h => h) (Or.inr ⟨by rfl, rfl⟩) hS2 ?_
    try simp only [Act.put, List.getElem_toArray, List.getElem_cons_zero, List.getElem_cons_succ, List.setIfInBounds_toArray, List.set_cons_zero, List.set_cons_succ]
    refine wpAnyH_take (i := 14) (v := undef) rfl (by kernel_rfl) (by kernel_rfl) (by kernel_rfl) (fun _ _ _ h => h) (Or.inr ⟨by rfl, rfl⟩) hS2 ?_
    try simp only [Act.put, List.getElem_toArray, List.getElem_cons_zero, List.getElem_cons_succ, List.setIfInBounds_toArray, List.set_cons_zero, List.set_cons_succ]
    refine wpAnyH_take (i := 15) (v := (.bool true)) rfl (by kernel_rfl) (by kernel_rfl) (by kernel_rfl) (fun _ _ _ h => h) (Or.inl ⟨by rfl, fun w' hS => by go_simp⟩) hS2 ?_
    try simp only [Act.put, List.getElem_toArray, List.getElem_cons_zero, List.getElem_cons_succ, List.setIfInBounds_toArray, List.set_cons_zero, List.set_cons_succ]
    have hS9 := hS2
    refine wpAnyH_done (by kernel_rfl) ?_ _
    go_wp2_with (fail)
    go_ret
    exact ⟨by rw [HR.out, HE.out]; rfl, HF3.out.trans hS9 (fun _ _ h => h)⟩
  · rw [hb] at heq
    refine wpAnyH_take (i := 4) (v := (.bool false)) rfl (by kernel_rfl) (by kernel_rfl) (by kernel_rfl) (fun _ _ _ h => h) (Or.inl ⟨by rfl, fun w' hS => by go_simp⟩) hS2 ?_
    try simp only [Act.put, List.getElem_toArray, List.getElem_cons_zero, List.getElem_cons_succ, List.setIfInBounds_toArray, List.set_cons_zero, List.set_cons_succ]
    refine wpAnyH_take (i := 5) (v := (.bool false)) rfl (by kernel_rfl) (by kernel_rfl) (by kernel_rfl) (fun _ _ _ h => h) (Or.inl ⟨by rfl, fun w' hS => by go_simp⟩) hS2 ?_
    try simp only [Act.put, List.getElem_toArray, List.getElem_cons_zero, List.getElem_cons_succ, List.setIfInBounds_toArray, List.set_cons_zero, List.set_cons_succ]
    refine wpAnyH_take (i := 6) (v := (.agg (ns.map iv).toArray)) rfl (by kernel_rfl) (by kernel_rfl) (by kernel_rfl) (fun _ _ _ h => h) (yieldsIf_load_mid (by rfl) 54 _ rfl b4 0 rfl (ns.map iv) _ (fun w' hS => hld w' hS) Try.underlying54 rfl hiL) hS2 ?_
    try simp only [Act.put, List.getElem_toArray, List.getElem_cons_zero, List.getElem_cons_succ, List.setIfInBounds_toArray, List.set_cons_zero, List.set_cons_succ]
    refine wpAnyH_take (i := 7) (v := (.pointer (some ⟨w.heap.size, 0, none⟩))) rfl (by kernel_rfl) (by kernel_rfl) (by kernel_rfl) (fun _ _ _ h => h) (Or.inl ⟨by rfl, fun w' hS => by go_simp⟩) hS2 ?_
    try simp only [Act.put, List.getElem_toArray, List.getElem_cons_zero, List.getElem_cons_succ, List.setIfInBounds_toArray, List.set_cons_zero, List.set_cons_succ]
    refine wpAnyH_take (i := 8) (v := (.int .i64 k)) rfl (by kernel_rfl) (by kernel_rfl) (by kernel_rfl) (fun _ _ _ h => h) (Or.inl ⟨by rfl, fun w' hS => by have c := cell_fr' hS c0; go_simp⟩) hS2 ?_
    try simp only [Act.put, List.getElem_toArray, List.getElem_cons_zero, List.getElem_cons_succ, List.setIfInBounds_toArray, List.set_cons_zero, List.set_cons_succ]
    refine wpAnyH_ready (rs := [9]) (by kernel_rfl) (by simp) ?_
    refine AllReadyH.cons rfl (fun K hK => ?_) AllReadyH.nil
    rw [if_pos (by rfl)]
    go_simp
    refine (mayN_any ns k w5 hl hk).mono ?_
    rintro e w6 ⟨rfl, hf⟩
    refine hK.out _ _ (Fr.trans hS2 hf (fun _ _ h => h)) (fun hS3 => ?_)
    clear hK K hf
    try simp only [Act.put, List.getElem_toArray, List.getElem_cons_zero, List.getElem_cons_succ, List.setIfInBounds_toArray, List.set_cons_zero, List.set_cons_succ]
    cases hm : mayB ns k
    · have he : okB k ns tube bn = false := by unfold okB; rw [hb, hm]; rfl
      have HE := Lib.hid he
      clear he
      refine wpAnyH_take (i := 10) (v := (.bool true)) rfl (by kernel_rfl) (by kernel_rfl) (by kernel_rfl) (fun _ _ _ h => h) (Or.inl ⟨by rfl, fun w' hS => by go_simp⟩) hS3 ?_
      try simp only [Act.put, List.getElem_toArray, List.getElem_cons_zero, List.getElem_cons_succ, List.setIfInBounds_toArray, List.set_cons_zero, List.set_cons_succ]
      refine wpAnyH_take (i := 11) (v := (.bool true)) rfl (by kernel_rfl) (by kernel_rfl) (by kernel_rfl) (fun _ _ _ h => h) (Or.inl ⟨by rfl, fun w' hS => by go_simp⟩) hS3 ?_
      try simp only [Act.put, List.getElem_toArray, List.getElem_cons_zero, List.getElem_cons_succ, List.setIfInBounds_toArray, List.set_cons_zero, List.set_cons_succ]
      refine wpAnyH_take (i := 12) (v := (.bool true)) rfl (by kernel_rfl) (by kernel_rfl) (by kernel_rfl) (fun _ _ _ h => h) (Or.inl ⟨by rfl, fun w' hS => by go_simp⟩) hS3 ?_
      try simp only [Act.put, List.getElem_toArray, List.getElem_cons_zero, List.getElem_cons_succ, List.setIfInBounds_toArray, List.set_cons_zero, List.set_cons_succ]
      refine wpAnyH_take (i := 13) (v := undef) rfl (by kernel_rfl) (by kernel_rfl) (by kernel_rfl) (fun _ _ _ h => h) (Or.inr ⟨by rfl, rfl⟩) hS3 ?_
      try simp only [Act.put, List.getElem_toArray, List.getElem_cons_zero, List.getElem_cons_succ, List.setIfInBounds_toArray, List.set_cons_zero, List.set_cons_succ]
      refine wpAnyH_take (i := 14) (v := undef) rfl (by kernel_rfl) (by kernel_rfl) (by kernel_rfl) (fun _ _ _ h => h) (Or.inr ⟨by rfl, rfl⟩) hS3 ?_
      try simp only [Act.put, List.getElem_toArray, List.getElem_cons_zero, List.getElem_cons_succ, List.setIfInBounds_toArray, List.set_cons_zero, List.set_cons_succ]
      refine wpAnyH_take (i := 15) (v := (.bool true)) rfl (by kernel_rfl) (by kernel_rfl) (by kernel_rfl) (fun _ _ _ h => h) (Or.inl ⟨by rfl, fun w' hS => by go_simp⟩) hS3 ?_
      try simp only [Act.put, List.getElem_toArray, List.getElem_cons_zero, List.getElem_cons_succ, List.setIfInBounds_toArray, List.set_cons_zero, List.set_cons_succ]
      have hS9 := hS3
      refine wpAnyH_done (by kernel_rfl) ?_ _
      go_wp2_with (fail)
      go_ret
      exact ⟨by rw [HR.out, HE.out]; rfl, HF3.out.trans hS9 (fun _ _ h => h)⟩
    · refine wpAnyH_take (i := 10) (v := (.bool false)) rfl (by kernel_rfl) (by kernel_rfl) (by kernel_rfl) (fun _ _ _ h => h) (Or.inl ⟨by rfl, fun w' hS => by go_simp⟩) hS3 ?_
      try simp only [Act.put, List.getElem_toArray, List.getElem_cons_zero, List.getElem_cons_succ, List.setIfInBounds_toArray, List.set_cons_zero, List.set_cons_succ]
      refine wpAnyH_take (i := 11) (v := (.bool false)) rfl (by kernel_rfl) (by kernel_rfl) (by kernel_rfl) (fun _ _ _ h => h) (Or.inl ⟨by rfl, fun w' hS => by go_simp⟩) hS3 ?_
      try simp only [Act.put, List.getElem_toArray, List.getElem_cons_zero, List.getElem_cons_succ, List.setIfInBounds_toArray, List.set_cons_zero, List.set_cons_succ]
      refine wpAnyH_take (i := 12) (v := (.bool false)) rfl (by kernel_rfl) (by kernel_rfl) (by kernel_rfl) (fun _ _ _ h => h) (Or.inl ⟨by rfl, fun w' hS => by go_simp⟩) hS3 ?_
      try simp only [Act.put, List.getElem_toArray, List.getElem_cons_zero, List.getElem_cons_succ, List.setIfInBounds_toArray, List.set_cons_zero, List.set_cons_succ]
      have HT : Hid (textsB k tube bn = false) := Lib.hid (by unfold textsB; rw [if_pos (by simpa using h2)]; rw [hv]; rfl)
      have he : okB k ns tube bn = false := by unfold okB; rw [hb, hm, HT.out]; rfl
      have HE := Lib.hid he
      clear he
      refine wpAnyH_take (i := 13) (v := (.bool false)) rfl (by kernel_rfl) (by kernel_rfl) (by kernel_rfl) (fun _ _ _ h => h) (Or.inl ⟨by rfl, fun w' hS => by go_simp⟩) hS3 ?_
      try simp only [Act.put, List.getElem_toArray, List.getElem_cons_zero, List.getElem_cons_succ, List.setIfInBounds_toArray, List.set_cons_zero, List.set_cons_succ]
      refine wpAnyH_take (i := 14) (v := (.bool true)) rfl (by kernel_rfl) (by kernel_rfl) (by kernel_rfl) (fun _ _ _ h => h) (Or.inl ⟨by rfl, fun w' hS => by go_simp⟩) hS3 ?_
      try simp only [Act.put, List.getElem_toArray, List.getElem_cons_zero, List.getElem_cons_succ, List.setIfInBounds_toArray, List.set_cons_zero, List.set_cons_succ]
      refine wpAnyH_take (i := 15) (v := (.bool true)) rfl (by kernel_rfl) (by kernel_rfl) (by kernel_rfl) (fun _ _ _ h => h) (Or.inl ⟨by rfl, fun w' hS => by go_simp⟩) hS3 ?_
      try simp only [Act.put, List.getElem_toArray, List.getElem_cons_zero, List.getElem_cons_succ, List.setIfInBounds_toArray, List.set_cons_zero, List.set_cons_succ]
      have hS9 := hS3
      refine wpAnyH_done (by kernel_rfl) ?_ _
      go_wp2_with (fail)
      go_ret
      exact ⟨by rw [HR.out, HE.out]; rfl, HF3.out.trans hS9 (fun _ _ h => h)⟩

set_option maxRecDepth 100000 in
set_option maxHeartbeats 4000000 in
theorem check_Dt (k : Int) (ns : List Int) (tube : ByteArray) (bp : Option Addr) (bn bc : Nat) (w : World) (hl : ns.length = 16) (hk : Kind k) (ht : tube.toList.isEmpty = true) (h2 : (k == 2) = true) (hv : validB tube = true) (r : Int) (HR : Hid (r = if okB k ns tube bn then 0 else 101)) :
    Calls Try.prog 14 #[recV k ns tube (.slice bp bn bc)] w fun e w' => e = .returned (.int .i64 r) ∧ Fr (fun _ => False) w w' := by
  have hg := heap_alloc_eq w (.cells (recC k ns tube (.slice bp bn bc)) 29)
  have c0 : (w.alloc (.cells (recC k ns tube (.slice bp bn bc)) 29)).cell? ⟨w.heap.size, 0, none⟩ = some (.int .i64 k) := cell_is hg 0 rfl
  have hsz : (recC k ns tube (.slice bp bn bc)).size = 19 := rfl
  have hi29 : (Try.prog.info? 29).map (·.size) = some (recC k ns tube (.slice bp bn bc)).size := info29s
  have HRV : Hid (Value.agg (recC k ns tube (.slice bp bn bc)) = recV k ns tube (.slice bp bn bc)) := Lib.hid rfl
  have hcell : Hid (∀ w' : World, w'.heap[w.heap.size]? = some (.cells (recC k ns tube (.slice bp bn bc)) 29 (0, 0)) → w'.cell? ⟨w.heap.size, 0, none⟩ = some (.int .i64 k) ∧ w'.cell? ⟨w.heap.size, 17, none⟩ = some (.string tube) ∧ w'.cell? ⟨w.heap.size, 18, none⟩ = some (.slice bp bn bc)) := Lib.hid (fun w' h => ⟨cell_is h 0 rfl, cell_is h 17 rfl, cell_is h 18 rfl⟩)
  have HG := Lib.hid hg
  have HNUM : Hid (∀ w' : World, Calls Try.prog 29 #[.agg (recC k ns tube (.slice bp bn bc))] w' fun e w'' => e = .returned (.agg (ns.map iv).toArray) ∧ Fr (fun _ => False) w' w'') := Lib.hid (fun w' => numbersOf_any k ns tube bp bn bc w' hl)
  have hnil := nil51
  have HVA := Lib.hid (fun w' : World => valid_any tube w')
  have hf0 : Fr (fun _ => False) w (w.alloc (.cells (recC k ns tube (.slice bp bn bc)) 29)) := (Fr.refl _ w).alloc _
  have HF0 := Lib.hid hf0
  clear hg hf0
  unfold recV
  generalize recC k ns tube (.slice bp bn bc) = rc at *
  go_enter Try.func14, Try.ntmps14
  go_wp2_with (fail)
  refine (of_yes k _ hk).mono ?_
  rintro e w1 ⟨rfl, rfl⟩
  have HROW := Lib.hid (ofList_row hk (w.alloc (.cells rc 29)))
  have hf1 : Fr (fun _ => False) (w.alloc (.cells rc 29)) ((w.alloc (.cells rc 29)).alloc (.cells ((ofList k).map natV).toArray 3)) := (Fr.refl _ _).alloc _
  have HG1 := Lib.hid (hf1.get HG.out id)
  have HF1 := Lib.hid (HF0.out.trans hf1 (fun _ _ h => h))
  have hbl : w.heap.size < ((w.alloc (.cells rc 29)).alloc (.cells ((ofList k).map natV).toArray 3)).heap.size := by simp; omega
  clear hf1 c0 HG HF0
  generalize ((w.alloc (.cells rc 29)).alloc (.cells ((ofList k).map natV).toArray 3)) = w1 at *
  generalize hll : (ofList k).length = ll at *
  generalize (w.alloc (.cells rc 29)).heap.size = b3 at *
  have HLL := Lib.hid hll
  clear hll
  obtain ⟨c0, c17, c18⟩ := hcell.out w1 HG1.out
  go_wp2_with ((refine load_guard _ _ rfl ?_); refine wpList_load_row rfl 29 _ rfl w.heap.size rfl 29 _ (0, 0) _ HG1.out Try.underlying29 rfl hi29 ?_)
  refine (HNUM.out w1).mono ?_
  rintro e w2 ⟨rfl, hf2⟩
  have HF2 := Lib.hid (HF1.out.trans hf2 (fun _ _ h => h))
  have HG2 := Lib.hid (hf2.get HG1.out id)
  have HROW2 := Lib.hid (HROW.out.fr hf2)
  have hlt2 : w.heap.size < w2.heap.size := lt_of_heap HG2.out
  clear hf2 c0 c17 c18 HG1 HROW HF1
  have hi := info54o hl
  have hs16 : (ns.map iv).toArray.size = 16 := by simp [hl]
  go_wp2_with (first | ((refine store_guard _ _ _ _ rfl ?_); refine wpList_store_agg _ rfl _ _ 54 rfl w2.heap.size 54 _ (ns.map iv).toArray rfl rfl hi (heap_alloc_eq _ _) hs16.symm (iv_one ns) ?_; intro w3 hw3 hf3; have hf23 : Fr (fun _ => False) w2 w3 := ((Fr.refl _ w2).alloc _).trans hf3 (fun i hi h => absurd hi (by omega)); have HF3 := Lib.hid (HF2.out.trans hf23 (fun _ _ h => h)); have hg3 := hf23.get HG2.out id; have HG3 := Lib.hid hg3; obtain ⟨c0, c17, c18⟩ := hcell.out w3 hg3; have HROW3 := Lib.hid (HROW2.out.fr hf23); have HW3 := Lib.hid hw3; clear hw3 hf3 hf23 hg3 HF2 HG2 HROW2; generalize hq4 : w2.heap.size = b4 at *) | (refine (HVA.out _).mono ?_; rintro e w3' ⟨rfl, rfl⟩; rw [hv]))
  have heq := eq54 ns (onlyL ns (ofList k)) hl (onlyTo_length _ _ _)
  have hld : ∀ w' : World, Fr (fun _ => False) w3 w' → w'.rangeAt b4 0 (ns.map iv) := fun w' h j v hv => by
    rw [Nat.zero_add]
    exact cell_is (h.get HW3.out id) j (by simpa using hv)
  have hiL : (Try.prog.info? 54).map (·.size) = some (ns.map iv).length := by rw [info54s]; simp [hl]
  refine wp_region_held_drew (S := fun w' => Fr (fun _ => False) w3 w') (by kernel_rfl) ((Fr.refl _ _).drew) (fun hS1 => ?_)
  refine wpAnyH_take (i := 0) (v := (.agg (ns.map iv).toArray)) rfl (by kernel_rfl) (by kernel_rfl) (by kernel_rfl) (fun _ _ _ h => h) (yieldsIf_load_mid (by rfl) 54 _ rfl b4 0 rfl (ns.map iv) _ (fun w' hS => hld w' hS) Try.underlying54 rfl hiL) hS1 ?_
  try simp only [Act.put, List.getElem_toArray, List.getElem_cons_zero, List.setIfInBounds_toArray, List.set_cons_zero, List.set_cons_succ]
  refine wpAnyH_take (i := 1) (v := (.agg (ns.map iv).toArray)) rfl (by kernel_rfl) (by kernel_rfl) (by kernel_rfl) (fun _ _ _ h => h) (yieldsIf_load_mid (by rfl) 54 _ rfl b4 0 rfl (ns.map iv) _ (fun w' hS => hld w' hS) Try.underlying54 rfl hiL) hS1 ?_
  try simp only [Act.put, List.getElem_toArray, List.getElem_cons_zero, List.getElem_cons_succ, List.setIfInBounds_toArray, List.set_cons_zero, List.set_cons_succ]
  refine wpAnyH_take (i := 2) (v := (.slice (some ⟨b3, 0, none⟩) ll ll)) rfl (by kernel_rfl) (by kernel_rfl) (by kernel_rfl) (fun _ _ _ h => h) (Or.inl ⟨by rfl, fun w' hS => by go_simp⟩) hS1 ?_
  try simp only [Act.put, List.getElem_toArray, List.getElem_cons_zero, List.getElem_cons_succ, List.setIfInBounds_toArray, List.set_cons_zero, List.set_cons_succ]
  refine wpAnyH_ready (rs := [3]) (by kernel_rfl) (by simp) ?_
  refine AllReadyH.cons rfl (fun K hK => ?_) AllReadyH.nil
  rw [if_pos (by rfl)]
  go_simp
  refine (only_any ns (ofList k) _ w3.drew hl (HROW3.out.fr hS1)).mono ?_
  rintro e w5 ⟨rfl, hf⟩
  refine hK.out _ _ (Fr.trans hS1 hf (fun _ _ h => h)) (fun hS2 => ?_)
  clear hK K hf
  try simp only [Act.put, List.getElem_toArray, List.getElem_cons_zero, List.getElem_cons_succ, List.setIfInBounds_toArray, List.set_cons_zero, List.set_cons_succ]
  cases hb : (ns == onlyL ns (ofList k))
  · rw [hb] at heq
    have he : okB k ns tube bn = false := by unfold okB; rw [hb]; rfl
    have HE := Lib.hid he
    clear he
    refine wpAnyH_take (i := 4) (v := (.bool true)) rfl (by kernel_rfl) (by kernel_rfl) (by kernel_rfl) (fun _ _ _ h => h) (Or.inl ⟨by rfl, fun w' hS => by go_simp⟩) hS2 ?_
    try simp only [Act.put, List.getElem_toArray, List.getElem_cons_zero, List.getElem_cons_succ, List.setIfInBounds_toArray, List.set_cons_zero, List.set_cons_succ]
    refine wpAnyH_take (i := 5) (v := (.bool true)) rfl (by kernel_rfl) (by kernel_rfl) (by kernel_rfl) (fun _ _ _ h => h) (Or.inl ⟨by rfl, fun w' hS => by go_simp⟩) hS2 ?_
    try simp only [Act.put, List.getElem_toArray, List.getElem_cons_zero, List.getElem_cons_succ, List.setIfInBounds_toArray, List.set_cons_zero, List.set_cons_succ]
    refine wpAnyH_take (i := 6) (v := undef) rfl (by kernel_rfl) (by kernel_rfl) (by kernel_rfl) (fun _ _ _ h => h) (Or.inr ⟨by rfl, rfl⟩) hS2 ?_
    try simp only [Act.put, List.getElem_toArray, List.getElem_cons_zero, List.getElem_cons_succ, List.setIfInBounds_toArray, List.set_cons_zero, List.set_cons_succ]
    refine wpAnyH_take (i := 7) (v := undef) rfl (by kernel_rfl) (by kernel_rfl) (by kernel_rfl) (fun _ _ _ h => h) (Or.inr ⟨by rfl, rfl⟩) hS2 ?_
    try simp only [Act.put, List.getElem_toArray, List.getElem_cons_zero, List.getElem_cons_succ, List.setIfInBounds_toArray, List.set_cons_zero, List.set_cons_succ]
    refine wpAnyH_take (i := 8) (v := undef) rfl (by kernel_rfl) (by kernel_rfl) (by kernel_rfl) (fun _ _ _ h => h) (Or.inr ⟨by rfl, rfl⟩) hS2 ?_
    try simp only [Act.put, List.getElem_toArray, List.getElem_cons_zero, List.getElem_cons_succ, List.setIfInBounds_toArray, List.set_cons_zero, List.set_cons_succ]
    refine wpAnyH_ready (rs := [9]) (by kernel_rfl) (by simp) ?_
    refine AllReadyH.cons rfl (fun K hK => ?_) AllReadyH.nil
    rw [if_neg (by exact fun h => nomatch (show false = true from h))]
    refine hK.out _ _ hS2 (fun _ => ?_)
    clear hK K
    try simp only [Act.put, List.getElem_toArray, List.getElem_cons_zero, List.getElem_cons_succ, List.setIfInBounds_toArray, List.set_cons_zero, List.set_cons_succ]
    refine wpAnyH_take (i := 10) (v := undef) rfl (by kernel_rfl) (by kernel_rfl) (by kernel_rfl) (fun _ _ _ h => h) (Or.inr ⟨by rfl, rfl⟩) hS2 ?_
    try simp only [Act.put, List.getElem_toArray, List.getElem_cons_zero, List.getElem_cons_succ, List.setIfInBounds_toArray, List.set_cons_zero, List.set_cons_succ]
    refine wpAnyH_take (i := 11) (v := (.bool true)) rfl (by kernel_rfl) (by kernel_rfl) (by kernel_rfl) (fun _ _ _ h => h) (Or.inl ⟨by rfl, fun w' hS => by go_simp⟩) hS2 ?_
    try simp only [Act.put, List.getElem_toArray, List.getElem_cons_zero, List.getElem_cons_succ, List.setIfInBounds_toArray, List.set_cons_zero, List.set_cons_succ]
    refine wpAnyH_take (i := 12) (v := (.bool true)) rfl (by kernel_rfl) (by kernel_rfl) (by kernel_rfl) (fun _ _ _ h => h) (Or.inl ⟨by rfl, fun w' hS => by go_simp⟩) hS2 ?_
    try simp only [Act.put, List.getElem_toArray, List.getElem_cons_zero, List.getElem_cons_succ, List.setIfInBounds_toArray, List.set_cons_zero, List.set_cons_succ]
    refine wpAnyH_take (i := 13) (v := undef) rfl (by kernel_rfl) (by kernel_rfl) (by kernel_rfl) (fun _ _ _ h => h) (Or.inr ⟨by rfl, rfl⟩) hS2 ?_
    try simp only [Act.put, List.getElem_toArray, List.getElem_cons_zero, List.getElem_cons_succ, List.setIfInBounds_toArray, List.set_cons_zero, List.set_cons_succ]
    refine wpAnyH_take (i := 14) (v := undef) rfl (by kernel_rfl) (by kernel_rfl) (by kernel_rfl) (fun _ _ _ h => h) (Or.inr ⟨by rfl, rfl⟩) hS2 ?_
    try simp only [Act.put, List.getElem_toArray, List.getElem_cons_zero, List.getElem_cons_succ, List.setIfInBounds_toArray, List.set_cons_zero, List.set_cons_succ]
    refine wpAnyH_take (i := 15) (v := (.bool true)) rfl (by kernel_rfl) (by kernel_rfl) (by kernel_rfl) (fun _ _ _ h => h) (Or.inl ⟨by rfl, fun w' hS => by go_simp⟩) hS2 ?_
    try simp only [Act.put, List.getElem_toArray, List.getElem_cons_zero, List.getElem_cons_succ, List.setIfInBounds_toArray, List.set_cons_zero, List.set_cons_succ]
    have hS9 := hS2
    refine wpAnyH_done (by kernel_rfl) ?_ _
    go_wp2_with (fail)
    go_ret
    exact ⟨by rw [HR.out, HE.out]; rfl, HF3.out.trans hS9 (fun _ _ h => h)⟩
  · rw [hb] at heq
    refine wpAnyH_take (i := 4) (v := (.bool false)) rfl (by kernel_rfl) (by kernel_rfl) (by kernel_rfl) (fun _ _ _ h => h) (Or.inl ⟨by rfl, fun w' hS => by go_simp⟩) hS2 ?_
    try simp only [Act.put, List.getElem_toArray, List.getElem_cons_zero, List.getElem_cons_succ, List.setIfInBounds_toArray, List.set_cons_zero, List.set_cons_succ]
    refine wpAnyH_take (i := 5) (v := (.bool false)) rfl (by kernel_rfl) (by kernel_rfl) (by kernel_rfl) (fun _ _ _ h => h) (Or.inl ⟨by rfl, fun w' hS => by go_simp⟩) hS2 ?_
    try simp only [Act.put, List.getElem_toArray, List.getElem_cons_zero, List.getElem_cons_succ, List.setIfInBounds_toArray, List.set_cons_zero, List.set_cons_succ]
    refine wpAnyH_take (i := 6) (v := (.agg (ns.map iv).toArray)) rfl (by kernel_rfl) (by kernel_rfl) (by kernel_rfl) (fun _ _ _ h => h) (yieldsIf_load_mid (by rfl) 54 _ rfl b4 0 rfl (ns.map iv) _ (fun w' hS => hld w' hS) Try.underlying54 rfl hiL) hS2 ?_
    try simp only [Act.put, List.getElem_toArray, List.getElem_cons_zero, List.getElem_cons_succ, List.setIfInBounds_toArray, List.set_cons_zero, List.set_cons_succ]
    refine wpAnyH_take (i := 7) (v := (.pointer (some ⟨w.heap.size, 0, none⟩))) rfl (by kernel_rfl) (by kernel_rfl) (by kernel_rfl) (fun _ _ _ h => h) (Or.inl ⟨by rfl, fun w' hS => by go_simp⟩) hS2 ?_
    try simp only [Act.put, List.getElem_toArray, List.getElem_cons_zero, List.getElem_cons_succ, List.setIfInBounds_toArray, List.set_cons_zero, List.set_cons_succ]
    refine wpAnyH_take (i := 8) (v := (.int .i64 k)) rfl (by kernel_rfl) (by kernel_rfl) (by kernel_rfl) (fun _ _ _ h => h) (Or.inl ⟨by rfl, fun w' hS => by have c := cell_fr' hS c0; go_simp⟩) hS2 ?_
    try simp only [Act.put, List.getElem_toArray, List.getElem_cons_zero, List.getElem_cons_succ, List.setIfInBounds_toArray, List.set_cons_zero, List.set_cons_succ]
    refine wpAnyH_ready (rs := [9]) (by kernel_rfl) (by simp) ?_
    refine AllReadyH.cons rfl (fun K hK => ?_) AllReadyH.nil
    rw [if_pos (by rfl)]
    go_simp
    refine (mayN_any ns k w5 hl hk).mono ?_
    rintro e w6 ⟨rfl, hf⟩
    refine hK.out _ _ (Fr.trans hS2 hf (fun _ _ h => h)) (fun hS3 => ?_)
    clear hK K hf
    try simp only [Act.put, List.getElem_toArray, List.getElem_cons_zero, List.getElem_cons_succ, List.setIfInBounds_toArray, List.set_cons_zero, List.set_cons_succ]
    cases hm : mayB ns k
    · have he : okB k ns tube bn = false := by unfold okB; rw [hb, hm]; rfl
      have HE := Lib.hid he
      clear he
      refine wpAnyH_take (i := 10) (v := (.bool true)) rfl (by kernel_rfl) (by kernel_rfl) (by kernel_rfl) (fun _ _ _ h => h) (Or.inl ⟨by rfl, fun w' hS => by go_simp⟩) hS3 ?_
      try simp only [Act.put, List.getElem_toArray, List.getElem_cons_zero, List.getElem_cons_succ, List.setIfInBounds_toArray, List.set_cons_zero, List.set_cons_succ]
      refine wpAnyH_take (i := 11) (v := (.bool true)) rfl (by kernel_rfl) (by kernel_rfl) (by kernel_rfl) (fun _ _ _ h => h) (Or.inl ⟨by rfl, fun w' hS => by go_simp⟩) hS3 ?_
      try simp only [Act.put, List.getElem_toArray, List.getElem_cons_zero, List.getElem_cons_succ, List.setIfInBounds_toArray, List.set_cons_zero, List.set_cons_succ]
      refine wpAnyH_take (i := 12) (v := (.bool true)) rfl (by kernel_rfl) (by kernel_rfl) (by kernel_rfl) (fun _ _ _ h => h) (Or.inl ⟨by rfl, fun w' hS => by go_simp⟩) hS3 ?_
      try simp only [Act.put, List.getElem_toArray, List.getElem_cons_zero, List.getElem_cons_succ, List.setIfInBounds_toArray, List.set_cons_zero, List.set_cons_succ]
      refine wpAnyH_take (i := 13) (v := undef) rfl (by kernel_rfl) (by kernel_rfl) (by kernel_rfl) (fun _ _ _ h => h) (Or.inr ⟨by rfl, rfl⟩) hS3 ?_
      try simp only [Act.put, List.getElem_toArray, List.getElem_cons_zero, List.getElem_cons_succ, List.setIfInBounds_toArray, List.set_cons_zero, List.set_cons_succ]
      refine wpAnyH_take (i := 14) (v := undef) rfl (by kernel_rfl) (by kernel_rfl) (by kernel_rfl) (fun _ _ _ h => h) (Or.inr ⟨by rfl, rfl⟩) hS3 ?_
      try simp only [Act.put, List.getElem_toArray, List.getElem_cons_zero, List.getElem_cons_succ, List.setIfInBounds_toArray, List.set_cons_zero, List.set_cons_succ]
      refine wpAnyH_take (i := 15) (v := (.bool true)) rfl (by kernel_rfl) (by kernel_rfl) (by kernel_rfl) (fun _ _ _ h => h) (Or.inl ⟨by rfl, fun w' hS => by go_simp⟩) hS3 ?_
      try simp only [Act.put, List.getElem_toArray, List.getElem_cons_zero, List.getElem_cons_succ, List.setIfInBounds_toArray, List.set_cons_zero, List.set_cons_succ]
      have hS9 := hS3
      refine wpAnyH_done (by kernel_rfl) ?_ _
      go_wp2_with (fail)
      go_ret
      exact ⟨by rw [HR.out, HE.out]; rfl, HF3.out.trans hS9 (fun _ _ h => h)⟩
    · refine wpAnyH_take (i := 10) (v := (.bool false)) rfl (by kernel_rfl) (by kernel_rfl) (by kernel_rfl) (fun _ _ _ h => h) (Or.inl ⟨by rfl, fun w' hS => by go_simp⟩) hS3 ?_
      try simp only [Act.put, List.getElem_toArray, List.getElem_cons_zero, List.getElem_cons_succ, List.setIfInBounds_toArray, List.set_cons_zero, List.set_cons_succ]
      refine wpAnyH_take (i := 11) (v := (.bool false)) rfl (by kernel_rfl) (by kernel_rfl) (by kernel_rfl) (fun _ _ _ h => h) (Or.inl ⟨by rfl, fun w' hS => by go_simp⟩) hS3 ?_
      try simp only [Act.put, List.getElem_toArray, List.getElem_cons_zero, List.getElem_cons_succ, List.setIfInBounds_toArray, List.set_cons_zero, List.set_cons_succ]
      refine wpAnyH_take (i := 12) (v := (.bool false)) rfl (by kernel_rfl) (by kernel_rfl) (by kernel_rfl) (fun _ _ _ h => h) (Or.inl ⟨by rfl, fun w' hS => by go_simp⟩) hS3 ?_
      try simp only [Act.put, List.getElem_toArray, List.getElem_cons_zero, List.getElem_cons_succ, List.setIfInBounds_toArray, List.set_cons_zero, List.set_cons_succ]
      cases hz : (decide ((bn : Int) ≤ 65535))
      · have HT : Hid (textsB k tube bn = false) := Lib.hid (by unfold textsB; rw [if_pos (by simpa using h2)]; rw [hv, hz]; rfl)
        have he : okB k ns tube bn = false := by unfold okB; rw [hb, hm, HT.out]; rfl
        have HE := Lib.hid he
        clear he
        refine wpAnyH_take (i := 13) (v := (.bool false)) rfl (by kernel_rfl) (by kernel_rfl) (by kernel_rfl) (fun _ _ _ h => h) (Or.inl ⟨by rfl, fun w' hS => by go_simp⟩) hS3 ?_
        try simp only [Act.put, List.getElem_toArray, List.getElem_cons_zero, List.getElem_cons_succ, List.setIfInBounds_toArray, List.set_cons_zero, List.set_cons_succ]
        refine wpAnyH_take (i := 14) (v := (.bool true)) rfl (by kernel_rfl) (by kernel_rfl) (by kernel_rfl) (fun _ _ _ h => h) (Or.inl ⟨by rfl, fun w' hS => by go_simp⟩) hS3 ?_
        try simp only [Act.put, List.getElem_toArray, List.getElem_cons_zero, List.getElem_cons_succ, List.setIfInBounds_toArray, List.set_cons_zero, List.set_cons_succ]
        refine wpAnyH_take (i := 15) (v := (.bool true)) rfl (by kernel_rfl) (by kernel_rfl) (by kernel_rfl) (fun _ _ _ h => h) (Or.inl ⟨by rfl, fun w' hS => by go_simp⟩) hS3 ?_
        try simp only [Act.put, List.getElem_toArray, List.getElem_cons_zero, List.getElem_cons_succ, List.setIfInBounds_toArray, List.set_cons_zero, List.set_cons_succ]
        have hS9 := hS3
        refine wpAnyH_done (by kernel_rfl) ?_ _
        go_wp2_with (fail)
        go_ret
        exact ⟨by rw [HR.out, HE.out]; rfl, HF3.out.trans hS9 (fun _ _ h => h)⟩
      · have HT : Hid (textsB k tube bn = true) := Lib.hid (by unfold textsB; rw [if_pos (by simpa using h2)]; rw [hv, hz]; rfl)
        have he : okB k ns tube bn = true := by unfold okB; rw [hb, hm, HT.out]; rfl
        have HE := Lib.hid he
        clear he
        refine wpAnyH_take (i := 13) (v := (.bool true)) rfl (by kernel_rfl) (by kernel_rfl) (by kernel_rfl) (fun _ _ _ h => h) (Or.inl ⟨by rfl, fun w' hS => by go_simp⟩) hS3 ?_
        try simp only [Act.put, List.getElem_toArray, List.getElem_cons_zero, List.getElem_cons_succ, List.setIfInBounds_toArray, List.set_cons_zero, List.set_cons_succ]
        refine wpAnyH_take (i := 14) (v := (.bool false)) rfl (by kernel_rfl) (by kernel_rfl) (by kernel_rfl) (fun _ _ _ h => h) (Or.inl ⟨by rfl, fun w' hS => by go_simp⟩) hS3 ?_
        try simp only [Act.put, List.getElem_toArray, List.getElem_cons_zero, List.getElem_cons_succ, List.setIfInBounds_toArray, List.set_cons_zero, List.set_cons_succ]
        refine wpAnyH_take (i := 15) (v := (.bool false)) rfl (by kernel_rfl) (by kernel_rfl) (by kernel_rfl) (fun _ _ _ h => h) (Or.inl ⟨by rfl, fun w' hS => by go_simp⟩) hS3 ?_
        try simp only [Act.put, List.getElem_toArray, List.getElem_cons_zero, List.getElem_cons_succ, List.setIfInBounds_toArray, List.set_cons_zero, List.set_cons_succ]
        have hS9 := hS3
        refine wpAnyH_done (by kernel_rfl) ?_ _
        go_wp2_with (fail)
        go_ret
        exact ⟨by rw [HR.out, HE.out]; rfl, HF3.out.trans hS9 (fun _ _ h => h)⟩

theorem check_any (k : Int) (ns : List Int) (tube : ByteArray) (bp : Option Addr) (bn bc : Nat) (w : World) (hl : ns.length = 16) :
    Calls Try.prog 14 #[recV k ns tube (.slice bp bn bc)] w fun e w' => e = .returned (.int .i64 (checkE k ns tube bn)) ∧ Fr (fun _ => False) w w' := by
  unfold checkE
  by_cases hk : Kind k
  · rw [if_pos hk]
    cases h2 : (k == 2)
    · cases ht : tube.toList.isEmpty
      · exact check_A k ns tube bp bn bc w hl hk ht h2 _ (Lib.hid rfl)
      · exact check_B k ns tube bp bn bc w hl hk ht h2 _ (Lib.hid rfl)
    · cases hv : validB tube
      · cases ht : tube.toList.isEmpty
        · exact check_Cf k ns tube bp bn bc w hl hk ht h2 hv _ (Lib.hid rfl)
        · exact check_Ct k ns tube bp bn bc w hl hk ht h2 hv _ (Lib.hid rfl)
      · cases ht : tube.toList.isEmpty
        · exact check_Df k ns tube bp bn bc w hl hk ht h2 hv _ (Lib.hid rfl)
        · exact check_Dt k ns tube bp bn bc w hl hk ht h2 hv _ (Lib.hid rfl)
  · rw [if_neg hk]
    exact check_no k ns tube bp bn bc w hk

end Go.Proofs.Ytpecbhimnpjkdaa

