/- RecordBack, walked. -/
import Derived.Test.YtpecbhimnpjkdaaRcSame
import Derived.Test.YtpecbhimnpjkdaaRcPlain
namespace Go.Proofs.Ytpecbhimnpjkdaa
open Go.RowKit Go.Sb

set_option maxRecDepth 100000 in
set_option maxHeartbeats 2000000 in
theorem back_no (k : Int) (ns : List Int) (tube : ByteArray) (bp : Option Addr) (bc : Nat) (xs : List UInt8) (w : World) (hl : ns.length = 16) (hv : RB w (.slice bp xs.length bc) xs) (hc : checkE k ns tube xs.length ≠ 0) :
    Calls Try.prog 9 #[recV k ns tube (.slice bp xs.length bc)] w fun e w' => e = .returned (.bool true) ∧ Fr (fun _ => False) w w' := by
  have HG0 := Lib.hid (heap_alloc_eq w (.cells (recC k ns tube (.slice bp xs.length bc)) 29))
  have HF0 := Lib.hid ((Fr.refl (fun _ => False) w).alloc (.cells (recC k ns tube (.slice bp xs.length bc)) 29))
  have hi29 : (Try.prog.info? 29).map (·.size) = some (recC k ns tube (.slice bp xs.length bc)).size := info29s
  have HV0 := Lib.hid hv
  have H1 : Hid (∀ w' : World, Calls Try.prog 14 #[.agg (recC k ns tube (.slice bp xs.length bc))] w' fun e w'' => e = .returned (.int .i64 (checkE k ns tube xs.length)) ∧ Fr (fun _ => False) w' w'') := Lib.hid (fun w' => check_any k ns tube bp xs.length bc w' hl)
  have H2 : Hid (∀ w' : World, RB w' (.slice bp xs.length bc) xs → Calls Try.prog 13 #[.agg (recC k ns tube (.slice bp xs.length bc))] w' (TwoPost [] (checkE k ns tube xs.length) w')) := Lib.hid (fun w' h => by
    have := put_any k ns tube _ xs w' hl h
    rw [putX, if_neg hc] at this
    exact this)
  have H3 : Hid (∀ w' : World, Calls Try.prog 18 #[.agg (recC k ns tube (.slice bp xs.length bc))] w' fun e w'' => e = .returned (.int .i64 0) ∧ Fr (fun _ => False) w' w'') := Lib.hid (fun w' => by
    have := size_any k ns tube bp xs.length bc w' hl
    rw [sizeN, if_neg hc] at this
    exact this)
  have hc1 : (checkE k ns tube xs.length == 0) = false := by simpa using hc
  clear hc hv
  unfold recV
  generalize checkE k ns tube xs.length = r at *
  generalize recC k ns tube (.slice bp xs.length bc) = rc at *
  go_enter Try.func9, Try.ntmps9
  go_wp2_with (first
    | (go_at_call 10; refine (shown_any _).mono ?_; rintro e w1 ⟨rfl, hf1⟩; have HF1 := Lib.hid (HF0.out.trans hf1 (fun _ _ h => h)); have HG1 := Lib.hid (hf1.get HG0.out id); clear hf1)
    | ((refine load_guard _ _ rfl ?_); refine wpList_load_row rfl 29 _ rfl w.heap.size rfl 29 _ (0, 0) _ HG3.out Try.underlying29 rfl hi29 ?_)
    | ((refine load_guard _ _ rfl ?_); refine wpList_load_row rfl 29 _ rfl w.heap.size rfl 29 _ (0, 0) _ HG2.out Try.underlying29 rfl hi29 ?_)
    | ((refine load_guard _ _ rfl ?_); refine wpList_load_row rfl 29 _ rfl w.heap.size rfl 29 _ (0, 0) _ HG1.out Try.underlying29 rfl hi29 ?_)
    | (go_at_call 14; refine (H1.out _).mono ?_; rintro e w2 ⟨rfl, hf2⟩; have HF2 := Lib.hid (HF1.out.trans hf2 (fun _ _ h => h)); have HG2 := Lib.hid (hf2.get HG1.out id); clear hf2)
    | (go_at_call 13; refine (H2.out _ (HV0.out.fr HF2.out)).mono ?_; rintro e w3 ⟨v3, rfl, hv3, hf3⟩; have HF3 := Lib.hid (HF2.out.trans hf3 (fun _ _ h => h)); have HG3 := Lib.hid (hf3.get HG2.out id); obtain ⟨a3, c3, rfl, -⟩ := hv3.rb; clear hf3 hv3)
    | (go_at_call 18; refine (H3.out _).mono ?_; rintro e w4 ⟨rfl, hf4⟩; have HF4 := Lib.hid (HF3.out.trans hf4 (fun _ _ h => h)); clear hf4))
  go_ret
  exact ⟨rfl, HF4.out⟩

set_option maxRecDepth 100000 in
set_option maxHeartbeats 2000000 in
theorem back_yes1 (ns : List Int) (tube : ByteArray) (bp : Option Addr) (bc : Nat) (xs : List UInt8) (w : World) (hl : ns.length = 16) (hv : RB w (.slice bp xs.length bc) xs) (hc : checkE 1 ns tube xs.length = 0) :
    Calls Try.prog 9 #[recV 1 ns tube (.slice bp xs.length bc)] w fun e w' => e = .returned (.bool true) ∧ Fr (fun _ => False) w w' := by
  have HG0 := Lib.hid (heap_alloc_eq w (.cells (recC 1 ns tube (.slice bp xs.length bc)) 29))
  have HF0 := Lib.hid ((Fr.refl (fun _ => False) w).alloc (.cells (recC 1 ns tube (.slice bp xs.length bc)) 29))
  have hi29 : (Try.prog.info? 29).map (·.size) = some (recC 1 ns tube (.slice bp xs.length bc)).size := info29s
  have HV0 := Lib.hid hv
  have hnl := putL_length (k := 1) (ns := ns) (tube := tube) (xs := xs)
  have htx := check_text hc
  have H1 : Hid (∀ w' : World, Calls Try.prog 14 #[.agg (recC 1 ns tube (.slice bp xs.length bc))] w' fun e w'' => e = .returned (.int .i64 0) ∧ Fr (fun _ => False) w' w'') := Lib.hid (fun w' => by have := check_any 1 ns tube bp xs.length bc w' hl; rw [hc] at this; exact this)
  have H2 : Hid (∀ w' : World, RB w' (.slice bp xs.length bc) xs → Calls Try.prog 13 #[.agg (recC 1 ns tube (.slice bp xs.length bc))] w' (TwoPost (putL 1 ns tube xs) 0 w')) := Lib.hid (fun w' h => by
    have := put_any 1 ns tube _ xs w' hl h
    rw [putX, if_pos hc, hc] at this
    exact this)
  have H3 : Hid (∀ w' : World, Calls Try.prog 18 #[.agg (recC 1 ns tube (.slice bp xs.length bc))] w' fun e w'' => e = .returned (.int .i64 25) ∧ Fr (fun _ => False) w' w'') := Lib.hid (fun w' => by
    have := size_any 1 ns tube bp xs.length bc w' hl
    rw [sizeN, if_pos hc] at this
    exact this)
  have H4 : Hid (∀ (v : Value) (w' : World), RB w' v (putL 1 ns tube xs) → Calls Try.prog 11 #[v] w' (GetPost ⟨1, ns, tube, xs, 0⟩ w')) := Lib.hid (fun v w' h => by
    have := get_any v _ w' h (by rw [hnl]; rw [if_neg (by decide)]; decide)
    rw [got_put hc] at this
    exact this)
  have H5 : Hid (∀ (v : Value) (w' : World), RB w' v xs → RB w' (.slice bp xs.length bc) xs → Calls Try.prog 12 #[recV 1 ns tube v, .agg (recC 1 ns tube (.slice bp xs.length bc))] w' fun e w'' => e = .returned (.bool true) ∧ Fr (fun _ => False) w' w'') := Lib.hid (fun v w' h1 h2 => same_eq 1 ns tube v _ xs w' h1 h2)
  have hcell : Hid (∀ w' : World, w'.heap[w.heap.size]? = some (.cells (recC 1 ns tube (.slice bp xs.length bc)) 29 (0, 0)) → w'.cell? ⟨w.heap.size, 0, none⟩ = some (.int .i64 1) ∧ w'.cell? ⟨w.heap.size, 17, none⟩ = some (.string tube) ∧ w'.cell? ⟨w.heap.size, 18, none⟩ = some (.slice bp xs.length bc)) :=
    Lib.hid (fun w' h => ⟨cell_is h 0 rfl, cell_is h 17 rfl, cell_is h 18 rfl⟩)
  have hnn : (putL 1 ns tube xs).length = 17 := hnl
  clear htx hnl
  clear hc hv
  unfold recV
  generalize recC 1 ns tube (.slice bp xs.length bc) = rc at *
  go_enter Try.func9, Try.ntmps9
  go_wp2_with (first
    | (go_at_call 10; refine (shown_any _).mono ?_; rintro e w1 ⟨rfl, hf1⟩; have HF1 := Lib.hid (HF0.out.trans hf1 (fun _ _ h => h)); have HG1 := Lib.hid (hf1.get HG0.out id); clear hf1)
    | ((refine load_guard _ _ rfl ?_); refine wpList_load_row rfl 29 _ rfl w.heap.size rfl 29 _ (0, 0) _ HG6.out Try.underlying29 rfl hi29 ?_)
    | ((refine load_guard _ _ rfl ?_); refine wpList_load_row rfl 29 _ rfl w.heap.size rfl 29 _ (0, 0) _ HG3.out Try.underlying29 rfl hi29 ?_)
    | ((refine load_guard _ _ rfl ?_); refine wpList_load_row rfl 29 _ rfl w.heap.size rfl 29 _ (0, 0) _ HG2.out Try.underlying29 rfl hi29 ?_)
    | ((refine load_guard _ _ rfl ?_); refine wpList_load_row rfl 29 _ rfl w.heap.size rfl 29 _ (0, 0) _ HG1.out Try.underlying29 rfl hi29 ?_)
    | (go_at_call 14; refine (H1.out _).mono ?_; rintro e w2 ⟨rfl, hf2⟩; have HF2 := Lib.hid (HF1.out.trans hf2 (fun _ _ h => h)); have HG2 := Lib.hid (hf2.get HG1.out id); clear hf2)
    | (go_at_call 13; refine (H2.out _ (HV0.out.fr HF2.out)).mono ?_; rintro e w3 ⟨v3, rfl, hv3, hf3⟩; have HF3 := Lib.hid (HF2.out.trans hf3 (fun _ _ h => h)); have HG3 := Lib.hid (hf3.get HG2.out id); have HV3 := Lib.hid hv3.rb; obtain ⟨a3, c3, rfl, -⟩ := hv3.rb; rw [hnn] at HV3 ⊢; clear hf3 hv3)
    | (go_at_call 18; refine (H3.out _).mono ?_; rintro e w4 ⟨rfl, hf4⟩; have HF4 := Lib.hid (HF3.out.trans hf4 (fun _ _ h => h)); have HG4 := Lib.hid (hf4.get HG3.out id); have HV4 := Lib.hid (HV3.out.fr hf4); clear hf4)
    | (go_at_call 11; refine (H4.out _ _ HV4.out).mono ?_; rintro e w5 ⟨v5, rfl, hv5, hf5⟩; have HF5 := Lib.hid (HF4.out.trans hf5 (fun _ _ h => h)); have HG5 := Lib.hid (hf5.get HG4.out id); have HV5 := Lib.hid hv5.rb; obtain ⟨a5, c5, rfl, -⟩ := hv5.rb; clear hv5 hf5)
    | ((refine store_guard _ _ _ _ rfl ?_); refine wpList_store_agg _ rfl _ _ 29 rfl w5.heap.size 29 _ (recC 1 ns tube (.slice a5 xs.length c5)) rfl rfl info29s (heap_alloc_eq _ _) rfl (one19 _ _ _ _ _ _) ?_; intro w6 hw6 hf6; have HW6 := Lib.hid hw6; have hf56 : Fr (fun _ => False) w5 w6 := ((Fr.refl (fun _ => False) _).alloc _).trans hf6 (fun x hx h => by omega); have HF6 := Lib.hid (HF5.out.trans hf56 (fun _ _ h => h)); have HG6 := Lib.hid (hf56.get HG5.out id); have HV6 := Lib.hid (HV5.out.fr hf56); clear hw6 hf6 hf56)
    | ((refine load_guard _ _ rfl ?_); refine wpList_load_row rfl 29 _ rfl w5.heap.size rfl 29 _ (0, 0) _ HW6.out Try.underlying29 rfl info29s ?_)
    | (go_at_call 12; refine (H5.out _ _ HV6.out (HV0.out.fr HF6.out)).mono ?_; rintro e w7 ⟨rfl, hf7⟩; have HF7 := Lib.hid (HF6.out.trans hf7 (fun _ _ h => h)); obtain ⟨c0, c17, c18⟩ := hcell.out _ (hf7.get HG6.out id); clear hf7))
  go_ret
  exact ⟨rfl, HF7.out⟩

set_option maxRecDepth 100000 in
set_option maxHeartbeats 2000000 in
theorem back_yes2 (ns : List Int) (tube : ByteArray) (bp : Option Addr) (bc : Nat) (xs : List UInt8) (w : World) (hl : ns.length = 16) (hv : RB w (.slice bp xs.length bc) xs) (hc : checkE 2 ns tube xs.length = 0) :
    Calls Try.prog 9 #[recV 2 ns tube (.slice bp xs.length bc)] w fun e w' => e = .returned (.bool true) ∧ Fr (fun _ => False) w w' := by
  have HG0 := Lib.hid (heap_alloc_eq w (.cells (recC 2 ns tube (.slice bp xs.length bc)) 29))
  have HF0 := Lib.hid ((Fr.refl (fun _ => False) w).alloc (.cells (recC 2 ns tube (.slice bp xs.length bc)) 29))
  have hi29 : (Try.prog.info? 29).map (·.size) = some (recC 2 ns tube (.slice bp xs.length bc)).size := info29s
  have HV0 := Lib.hid hv
  have hnl := putL_length (k := 2) (ns := ns) (tube := tube) (xs := xs)
  have htx := check_text hc
  have H1 : Hid (∀ w' : World, Calls Try.prog 14 #[.agg (recC 2 ns tube (.slice bp xs.length bc))] w' fun e w'' => e = .returned (.int .i64 0) ∧ Fr (fun _ => False) w' w'') := Lib.hid (fun w' => by have := check_any 2 ns tube bp xs.length bc w' hl; rw [hc] at this; exact this)
  have H2 : Hid (∀ w' : World, RB w' (.slice bp xs.length bc) xs → Calls Try.prog 13 #[.agg (recC 2 ns tube (.slice bp xs.length bc))] w' (TwoPost (putL 2 ns tube xs) 0 w')) := Lib.hid (fun w' h => by
    have := put_any 2 ns tube _ xs w' hl h
    rw [putX, if_pos hc, hc] at this
    exact this)
  have H3 : Hid (∀ w' : World, Calls Try.prog 18 #[.agg (recC 2 ns tube (.slice bp xs.length bc))] w' fun e w'' => e = .returned (.int .i64 (114 + (tube.size : Int) + (xs.length : Int))) ∧ Fr (fun _ => False) w' w'') := Lib.hid (fun w' => by
    have := size_any 2 ns tube bp xs.length bc w' hl
    rw [sizeN, if_pos hc] at this
    rw [if_pos rfl, show ((9 + 8 * (ofList 2).length + (1 + tube.size + xs.length) : Nat) : Int) = 114 + (tube.size : Int) + (xs.length : Int) from by have : (ofList 2).length = 13 := rfl; omega] at this; exact this)
  have H4 : Hid (∀ (v : Value) (w' : World), RB w' v (putL 2 ns tube xs) → Calls Try.prog 11 #[v] w' (GetPost ⟨2, ns, tube, xs, 0⟩ w')) := Lib.hid (fun v w' h => by
    have := get_any v _ w' h (by rw [hnl]; have := htx rfl; have : (ofList 2).length = 13 := rfl; rw [if_pos rfl]; omega)
    rw [got_put hc] at this
    exact this)
  have H5 : Hid (∀ (v : Value) (w' : World), RB w' v xs → RB w' (.slice bp xs.length bc) xs → Calls Try.prog 12 #[recV 2 ns tube v, .agg (recC 2 ns tube (.slice bp xs.length bc))] w' fun e w'' => e = .returned (.bool true) ∧ Fr (fun _ => False) w' w'') := Lib.hid (fun v w' h1 h2 => same_eq 2 ns tube v _ xs w' h1 h2)
  have hcell : Hid (∀ w' : World, w'.heap[w.heap.size]? = some (.cells (recC 2 ns tube (.slice bp xs.length bc)) 29 (0, 0)) → w'.cell? ⟨w.heap.size, 0, none⟩ = some (.int .i64 2) ∧ w'.cell? ⟨w.heap.size, 17, none⟩ = some (.string tube) ∧ w'.cell? ⟨w.heap.size, 18, none⟩ = some (.slice bp xs.length bc)) :=
    Lib.hid (fun w' h => ⟨cell_is h 0 rfl, cell_is h 17 rfl, cell_is h 18 rfl⟩)
  obtain ⟨hx1, hx2⟩ := htx rfl
  rw [if_pos rfl, show (ofList 2).length = 13 from rfl] at hnl
  generalize hnn : (putL 2 ns tube xs).length = n3 at hnl
  have hq1 : (n3 : Int) = 114 + (tube.size : Int) + (xs.length : Int) - 8 := by omega
  have hq2 : (n3 : Int) ≤ 65841 := by omega
  have hq3 : (n3 : Int) ≤ 66000 := by omega
  clear htx hnl
  clear hc hv
  unfold recV
  generalize recC 2 ns tube (.slice bp xs.length bc) = rc at *
  go_enter Try.func9, Try.ntmps9
  go_wp2_with (first
    | (go_at_call 10; refine (shown_any _).mono ?_; rintro e w1 ⟨rfl, hf1⟩; have HF1 := Lib.hid (HF0.out.trans hf1 (fun _ _ h => h)); have HG1 := Lib.hid (hf1.get HG0.out id); clear hf1)
    | ((refine load_guard _ _ rfl ?_); refine wpList_load_row rfl 29 _ rfl w.heap.size rfl 29 _ (0, 0) _ HG6.out Try.underlying29 rfl hi29 ?_)
    | ((refine load_guard _ _ rfl ?_); refine wpList_load_row rfl 29 _ rfl w.heap.size rfl 29 _ (0, 0) _ HG3.out Try.underlying29 rfl hi29 ?_)
    | ((refine load_guard _ _ rfl ?_); refine wpList_load_row rfl 29 _ rfl w.heap.size rfl 29 _ (0, 0) _ HG2.out Try.underlying29 rfl hi29 ?_)
    | ((refine load_guard _ _ rfl ?_); refine wpList_load_row rfl 29 _ rfl w.heap.size rfl 29 _ (0, 0) _ HG1.out Try.underlying29 rfl hi29 ?_)
    | (go_at_call 14; refine (H1.out _).mono ?_; rintro e w2 ⟨rfl, hf2⟩; have HF2 := Lib.hid (HF1.out.trans hf2 (fun _ _ h => h)); have HG2 := Lib.hid (hf2.get HG1.out id); clear hf2)
    | (go_at_call 13; refine (H2.out _ (HV0.out.fr HF2.out)).mono ?_; rintro e w3 ⟨v3, rfl, hv3, hf3⟩; have HF3 := Lib.hid (HF2.out.trans hf3 (fun _ _ h => h)); have HG3 := Lib.hid (hf3.get HG2.out id); have HV3 := Lib.hid hv3.rb; obtain ⟨a3, c3, rfl, -⟩ := hv3.rb; rw [hnn] at HV3 ⊢; clear hf3 hv3)
    | (go_at_call 18; refine (H3.out _).mono ?_; rintro e w4 ⟨rfl, hf4⟩; have HF4 := Lib.hid (HF3.out.trans hf4 (fun _ _ h => h)); have HG4 := Lib.hid (hf4.get HG3.out id); have HV4 := Lib.hid (HV3.out.fr hf4); clear hf4)
    | (go_at_call 11; refine (H4.out _ _ HV4.out).mono ?_; rintro e w5 ⟨v5, rfl, hv5, hf5⟩; have HF5 := Lib.hid (HF4.out.trans hf5 (fun _ _ h => h)); have HG5 := Lib.hid (hf5.get HG4.out id); have HV5 := Lib.hid hv5.rb; obtain ⟨a5, c5, rfl, -⟩ := hv5.rb; clear hv5 hf5)
    | ((refine store_guard _ _ _ _ rfl ?_); refine wpList_store_agg _ rfl _ _ 29 rfl w5.heap.size 29 _ (recC 2 ns tube (.slice a5 xs.length c5)) rfl rfl info29s (heap_alloc_eq _ _) rfl (one19 _ _ _ _ _ _) ?_; intro w6 hw6 hf6; have HW6 := Lib.hid hw6; have hf56 : Fr (fun _ => False) w5 w6 := ((Fr.refl (fun _ => False) _).alloc _).trans hf6 (fun x hx h => by omega); have HF6 := Lib.hid (HF5.out.trans hf56 (fun _ _ h => h)); have HG6 := Lib.hid (hf56.get HG5.out id); have HV6 := Lib.hid (HV5.out.fr hf56); clear hw6 hf6 hf56)
    | ((refine load_guard _ _ rfl ?_); refine wpList_load_row rfl 29 _ rfl w5.heap.size rfl 29 _ (0, 0) _ HW6.out Try.underlying29 rfl info29s ?_)
    | (go_at_call 12; refine (H5.out _ _ HV6.out (HV0.out.fr HF6.out)).mono ?_; rintro e w7 ⟨rfl, hf7⟩; have HF7 := Lib.hid (HF6.out.trans hf7 (fun _ _ h => h)); obtain ⟨c0, c17, c18⟩ := hcell.out _ (hf7.get HG6.out id); clear hf7))
  go_ret
  refine ⟨?_, HF7.out⟩
  show Ending.returned (.bool (decide (114 + (tube.size : Int) + (xs.length : Int) - 8 ≤ 66000))) = _
  rw [decide_eq_true (by omega)]

set_option maxRecDepth 100000 in
set_option maxHeartbeats 2000000 in
theorem back_yes3 (ns : List Int) (tube : ByteArray) (bp : Option Addr) (bc : Nat) (xs : List UInt8) (w : World) (hl : ns.length = 16) (hv : RB w (.slice bp xs.length bc) xs) (hc : checkE 3 ns tube xs.length = 0) :
    Calls Try.prog 9 #[recV 3 ns tube (.slice bp xs.length bc)] w fun e w' => e = .returned (.bool true) ∧ Fr (fun _ => False) w w' := by
  have HG0 := Lib.hid (heap_alloc_eq w (.cells (recC 3 ns tube (.slice bp xs.length bc)) 29))
  have HF0 := Lib.hid ((Fr.refl (fun _ => False) w).alloc (.cells (recC 3 ns tube (.slice bp xs.length bc)) 29))
  have hi29 : (Try.prog.info? 29).map (·.size) = some (recC 3 ns tube (.slice bp xs.length bc)).size := info29s
  have HV0 := Lib.hid hv
  have hnl := putL_length (k := 3) (ns := ns) (tube := tube) (xs := xs)
  have htx := check_text hc
  have H1 : Hid (∀ w' : World, Calls Try.prog 14 #[.agg (recC 3 ns tube (.slice bp xs.length bc))] w' fun e w'' => e = .returned (.int .i64 0) ∧ Fr (fun _ => False) w' w'') := Lib.hid (fun w' => by have := check_any 3 ns tube bp xs.length bc w' hl; rw [hc] at this; exact this)
  have H2 : Hid (∀ w' : World, RB w' (.slice bp xs.length bc) xs → Calls Try.prog 13 #[.agg (recC 3 ns tube (.slice bp xs.length bc))] w' (TwoPost (putL 3 ns tube xs) 0 w')) := Lib.hid (fun w' h => by
    have := put_any 3 ns tube _ xs w' hl h
    rw [putX, if_pos hc, hc] at this
    exact this)
  have H3 : Hid (∀ w' : World, Calls Try.prog 18 #[.agg (recC 3 ns tube (.slice bp xs.length bc))] w' fun e w'' => e = .returned (.int .i64 97) ∧ Fr (fun _ => False) w' w'') := Lib.hid (fun w' => by
    have := size_any 3 ns tube bp xs.length bc w' hl
    rw [sizeN, if_pos hc] at this
    exact this)
  have H4 : Hid (∀ (v : Value) (w' : World), RB w' v (putL 3 ns tube xs) → Calls Try.prog 11 #[v] w' (GetPost ⟨3, ns, tube, xs, 0⟩ w')) := Lib.hid (fun v w' h => by
    have := get_any v _ w' h (by rw [hnl]; rw [if_neg (by decide)]; decide)
    rw [got_put hc] at this
    exact this)
  have H5 : Hid (∀ (v : Value) (w' : World), RB w' v xs → RB w' (.slice bp xs.length bc) xs → Calls Try.prog 12 #[recV 3 ns tube v, .agg (recC 3 ns tube (.slice bp xs.length bc))] w' fun e w'' => e = .returned (.bool true) ∧ Fr (fun _ => False) w' w'') := Lib.hid (fun v w' h1 h2 => same_eq 3 ns tube v _ xs w' h1 h2)
  have hcell : Hid (∀ w' : World, w'.heap[w.heap.size]? = some (.cells (recC 3 ns tube (.slice bp xs.length bc)) 29 (0, 0)) → w'.cell? ⟨w.heap.size, 0, none⟩ = some (.int .i64 3) ∧ w'.cell? ⟨w.heap.size, 17, none⟩ = some (.string tube) ∧ w'.cell? ⟨w.heap.size, 18, none⟩ = some (.slice bp xs.length bc)) :=
    Lib.hid (fun w' h => ⟨cell_is h 0 rfl, cell_is h 17 rfl, cell_is h 18 rfl⟩)
  have hnn : (putL 3 ns tube xs).length = 89 := hnl
  clear htx hnl
  clear hc hv
  unfold recV
  generalize recC 3 ns tube (.slice bp xs.length bc) = rc at *
  go_enter Try.func9, Try.ntmps9
  go_wp2_with (first
    | (go_at_call 10; refine (shown_any _).mono ?_; rintro e w1 ⟨rfl, hf1⟩; have HF1 := Lib.hid (HF0.out.trans hf1 (fun _ _ h => h)); have HG1 := Lib.hid (hf1.get HG0.out id); clear hf1)
    | ((refine load_guard _ _ rfl ?_); refine wpList_load_row rfl 29 _ rfl w.heap.size rfl 29 _ (0, 0) _ HG6.out Try.underlying29 rfl hi29 ?_)
    | ((refine load_guard _ _ rfl ?_); refine wpList_load_row rfl 29 _ rfl w.heap.size rfl 29 _ (0, 0) _ HG3.out Try.underlying29 rfl hi29 ?_)
    | ((refine load_guard _ _ rfl ?_); refine wpList_load_row rfl 29 _ rfl w.heap.size rfl 29 _ (0, 0) _ HG2.out Try.underlying29 rfl hi29 ?_)
    | ((refine load_guard _ _ rfl ?_); refine wpList_load_row rfl 29 _ rfl w.heap.size rfl 29 _ (0, 0) _ HG1.out Try.underlying29 rfl hi29 ?_)
    | (go_at_call 14; refine (H1.out _).mono ?_; rintro e w2 ⟨rfl, hf2⟩; have HF2 := Lib.hid (HF1.out.trans hf2 (fun _ _ h => h)); have HG2 := Lib.hid (hf2.get HG1.out id); clear hf2)
    | (go_at_call 13; refine (H2.out _ (HV0.out.fr HF2.out)).mono ?_; rintro e w3 ⟨v3, rfl, hv3, hf3⟩; have HF3 := Lib.hid (HF2.out.trans hf3 (fun _ _ h => h)); have HG3 := Lib.hid (hf3.get HG2.out id); have HV3 := Lib.hid hv3.rb; obtain ⟨a3, c3, rfl, -⟩ := hv3.rb; rw [hnn] at HV3 ⊢; clear hf3 hv3)
    | (go_at_call 18; refine (H3.out _).mono ?_; rintro e w4 ⟨rfl, hf4⟩; have HF4 := Lib.hid (HF3.out.trans hf4 (fun _ _ h => h)); have HG4 := Lib.hid (hf4.get HG3.out id); have HV4 := Lib.hid (HV3.out.fr hf4); clear hf4)
    | (go_at_call 11; refine (H4.out _ _ HV4.out).mono ?_; rintro e w5 ⟨v5, rfl, hv5, hf5⟩; have HF5 := Lib.hid (HF4.out.trans hf5 (fun _ _ h => h)); have HG5 := Lib.hid (hf5.get HG4.out id); have HV5 := Lib.hid hv5.rb; obtain ⟨a5, c5, rfl, -⟩ := hv5.rb; clear hv5 hf5)
    | ((refine store_guard _ _ _ _ rfl ?_); refine wpList_store_agg _ rfl _ _ 29 rfl w5.heap.size 29 _ (recC 3 ns tube (.slice a5 xs.length c5)) rfl rfl info29s (heap_alloc_eq _ _) rfl (one19 _ _ _ _ _ _) ?_; intro w6 hw6 hf6; have HW6 := Lib.hid hw6; have hf56 : Fr (fun _ => False) w5 w6 := ((Fr.refl (fun _ => False) _).alloc _).trans hf6 (fun x hx h => by omega); have HF6 := Lib.hid (HF5.out.trans hf56 (fun _ _ h => h)); have HG6 := Lib.hid (hf56.get HG5.out id); have HV6 := Lib.hid (HV5.out.fr hf56); clear hw6 hf6 hf56)
    | ((refine load_guard _ _ rfl ?_); refine wpList_load_row rfl 29 _ rfl w5.heap.size rfl 29 _ (0, 0) _ HW6.out Try.underlying29 rfl info29s ?_)
    | (go_at_call 12; refine (H5.out _ _ HV6.out (HV0.out.fr HF6.out)).mono ?_; rintro e w7 ⟨rfl, hf7⟩; have HF7 := Lib.hid (HF6.out.trans hf7 (fun _ _ h => h)); obtain ⟨c0, c17, c18⟩ := hcell.out _ (hf7.get HG6.out id); clear hf7))
  go_ret
  exact ⟨rfl, HF7.out⟩

set_option maxRecDepth 100000 in
set_option maxHeartbeats 2000000 in
theorem back_yes4 (ns : List Int) (tube : ByteArray) (bp : Option Addr) (bc : Nat) (xs : List UInt8) (w : World) (hl : ns.length = 16) (hv : RB w (.slice bp xs.length bc) xs) (hc : checkE 4 ns tube xs.length = 0) :
    Calls Try.prog 9 #[recV 4 ns tube (.slice bp xs.length bc)] w fun e w' => e = .returned (.bool true) ∧ Fr (fun _ => False) w w' := by
  have HG0 := Lib.hid (heap_alloc_eq w (.cells (recC 4 ns tube (.slice bp xs.length bc)) 29))
  have HF0 := Lib.hid ((Fr.refl (fun _ => False) w).alloc (.cells (recC 4 ns tube (.slice bp xs.length bc)) 29))
  have hi29 : (Try.prog.info? 29).map (·.size) = some (recC 4 ns tube (.slice bp xs.length bc)).size := info29s
  have HV0 := Lib.hid hv
  have hnl := putL_length (k := 4) (ns := ns) (tube := tube) (xs := xs)
  have htx := check_text hc
  have H1 : Hid (∀ w' : World, Calls Try.prog 14 #[.agg (recC 4 ns tube (.slice bp xs.length bc))] w' fun e w'' => e = .returned (.int .i64 0) ∧ Fr (fun _ => False) w' w'') := Lib.hid (fun w' => by have := check_any 4 ns tube bp xs.length bc w' hl; rw [hc] at this; exact this)
  have H2 : Hid (∀ w' : World, RB w' (.slice bp xs.length bc) xs → Calls Try.prog 13 #[.agg (recC 4 ns tube (.slice bp xs.length bc))] w' (TwoPost (putL 4 ns tube xs) 0 w')) := Lib.hid (fun w' h => by
    have := put_any 4 ns tube _ xs w' hl h
    rw [putX, if_pos hc, hc] at this
    exact this)
  have H3 : Hid (∀ w' : World, Calls Try.prog 18 #[.agg (recC 4 ns tube (.slice bp xs.length bc))] w' fun e w'' => e = .returned (.int .i64 17) ∧ Fr (fun _ => False) w' w'') := Lib.hid (fun w' => by
    have := size_any 4 ns tube bp xs.length bc w' hl
    rw [sizeN, if_pos hc] at this
    exact this)
  have H4 : Hid (∀ (v : Value) (w' : World), RB w' v (putL 4 ns tube xs) → Calls Try.prog 11 #[v] w' (GetPost ⟨4, ns, tube, xs, 0⟩ w')) := Lib.hid (fun v w' h => by
    have := get_any v _ w' h (by rw [hnl]; rw [if_neg (by decide)]; decide)
    rw [got_put hc] at this
    exact this)
  have H5 : Hid (∀ (v : Value) (w' : World), RB w' v xs → RB w' (.slice bp xs.length bc) xs → Calls Try.prog 12 #[recV 4 ns tube v, .agg (recC 4 ns tube (.slice bp xs.length bc))] w' fun e w'' => e = .returned (.bool true) ∧ Fr (fun _ => False) w' w'') := Lib.hid (fun v w' h1 h2 => same_eq 4 ns tube v _ xs w' h1 h2)
  have hcell : Hid (∀ w' : World, w'.heap[w.heap.size]? = some (.cells (recC 4 ns tube (.slice bp xs.length bc)) 29 (0, 0)) → w'.cell? ⟨w.heap.size, 0, none⟩ = some (.int .i64 4) ∧ w'.cell? ⟨w.heap.size, 17, none⟩ = some (.string tube) ∧ w'.cell? ⟨w.heap.size, 18, none⟩ = some (.slice bp xs.length bc)) :=
    Lib.hid (fun w' h => ⟨cell_is h 0 rfl, cell_is h 17 rfl, cell_is h 18 rfl⟩)
  have hnn : (putL 4 ns tube xs).length = 9 := hnl
  clear htx hnl
  clear hc hv
  unfold recV
  generalize recC 4 ns tube (.slice bp xs.length bc) = rc at *
  go_enter Try.func9, Try.ntmps9
  go_wp2_with (first
    | (go_at_call 10; refine (shown_any _).mono ?_; rintro e w1 ⟨rfl, hf1⟩; have HF1 := Lib.hid (HF0.out.trans hf1 (fun _ _ h => h)); have HG1 := Lib.hid (hf1.get HG0.out id); clear hf1)
    | ((refine load_guard _ _ rfl ?_); refine wpList_load_row rfl 29 _ rfl w.heap.size rfl 29 _ (0, 0) _ HG6.out Try.underlying29 rfl hi29 ?_)
    | ((refine load_guard _ _ rfl ?_); refine wpList_load_row rfl 29 _ rfl w.heap.size rfl 29 _ (0, 0) _ HG3.out Try.underlying29 rfl hi29 ?_)
    | ((refine load_guard _ _ rfl ?_); refine wpList_load_row rfl 29 _ rfl w.heap.size rfl 29 _ (0, 0) _ HG2.out Try.underlying29 rfl hi29 ?_)
    | ((refine load_guard _ _ rfl ?_); refine wpList_load_row rfl 29 _ rfl w.heap.size rfl 29 _ (0, 0) _ HG1.out Try.underlying29 rfl hi29 ?_)
    | (go_at_call 14; refine (H1.out _).mono ?_; rintro e w2 ⟨rfl, hf2⟩; have HF2 := Lib.hid (HF1.out.trans hf2 (fun _ _ h => h)); have HG2 := Lib.hid (hf2.get HG1.out id); clear hf2)
    | (go_at_call 13; refine (H2.out _ (HV0.out.fr HF2.out)).mono ?_; rintro e w3 ⟨v3, rfl, hv3, hf3⟩; have HF3 := Lib.hid (HF2.out.trans hf3 (fun _ _ h => h)); have HG3 := Lib.hid (hf3.get HG2.out id); have HV3 := Lib.hid hv3.rb; obtain ⟨a3, c3, rfl, -⟩ := hv3.rb; rw [hnn] at HV3 ⊢; clear hf3 hv3)
    | (go_at_call 18; refine (H3.out _).mono ?_; rintro e w4 ⟨rfl, hf4⟩; have HF4 := Lib.hid (HF3.out.trans hf4 (fun _ _ h => h)); have HG4 := Lib.hid (hf4.get HG3.out id); have HV4 := Lib.hid (HV3.out.fr hf4); clear hf4)
    | (go_at_call 11; refine (H4.out _ _ HV4.out).mono ?_; rintro e w5 ⟨v5, rfl, hv5, hf5⟩; have HF5 := Lib.hid (HF4.out.trans hf5 (fun _ _ h => h)); have HG5 := Lib.hid (hf5.get HG4.out id); have HV5 := Lib.hid hv5.rb; obtain ⟨a5, c5, rfl, -⟩ := hv5.rb; clear hv5 hf5)
    | ((refine store_guard _ _ _ _ rfl ?_); refine wpList_store_agg _ rfl _ _ 29 rfl w5.heap.size 29 _ (recC 4 ns tube (.slice a5 xs.length c5)) rfl rfl info29s (heap_alloc_eq _ _) rfl (one19 _ _ _ _ _ _) ?_; intro w6 hw6 hf6; have HW6 := Lib.hid hw6; have hf56 : Fr (fun _ => False) w5 w6 := ((Fr.refl (fun _ => False) _).alloc _).trans hf6 (fun x hx h => by omega); have HF6 := Lib.hid (HF5.out.trans hf56 (fun _ _ h => h)); have HG6 := Lib.hid (hf56.get HG5.out id); have HV6 := Lib.hid (HV5.out.fr hf56); clear hw6 hf6 hf56)
    | ((refine load_guard _ _ rfl ?_); refine wpList_load_row rfl 29 _ rfl w5.heap.size rfl 29 _ (0, 0) _ HW6.out Try.underlying29 rfl info29s ?_)
    | (go_at_call 12; refine (H5.out _ _ HV6.out (HV0.out.fr HF6.out)).mono ?_; rintro e w7 ⟨rfl, hf7⟩; have HF7 := Lib.hid (HF6.out.trans hf7 (fun _ _ h => h)); obtain ⟨c0, c17, c18⟩ := hcell.out _ (hf7.get HG6.out id); clear hf7))
  go_ret
  exact ⟨rfl, HF7.out⟩

theorem back_any (k : Int) (ns : List Int) (tube : ByteArray) (v : Value) (xs : List UInt8) (w : World) (hl : ns.length = 16) (hv : RB w v xs) (_hs : xs.length ≤ 140737488351232) :
    Calls Try.prog 9 #[recV k ns tube v] w fun e w' => e = .returned (.bool true) ∧ Fr (fun _ => False) w w' := by
  have hv0 := hv
  obtain ⟨bp, bc, rfl, -⟩ := hv0
  by_cases hc : checkE k ns tube xs.length = 0
  · rcases (check0 hc).1 with rfl | rfl | rfl | rfl
    · exact back_yes1 ns tube bp bc xs w hl hv hc
    · exact back_yes2 ns tube bp bc xs w hl hv hc
    · exact back_yes3 ns tube bp bc xs w hl hv hc
    · exact back_yes4 ns tube bp bc xs w hl hv hc
  · exact back_no k ns tube bp bc xs w hl hv hc

end Go.Proofs.Ytpecbhimnpjkdaa
