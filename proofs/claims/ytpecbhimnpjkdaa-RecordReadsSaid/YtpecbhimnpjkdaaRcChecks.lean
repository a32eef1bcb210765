/- RecordChecks, walked. -/
import Derived.Test.YtpecbhimnpjkdaaRcLent
import Derived.Test.YtpecbhimnpjkdaaRcRefPut
import Derived.Test.YtpecbhimnpjkdaaRcForms
namespace Go.Proofs.Ytpecbhimnpjkdaa
open Go.RowKit Go.Sb

theorem mark4_take (xs : List UInt8) (j : Nat) : (mark4 xs j).take xs.length = xs := by
  unfold mark4
  exact List.take_left

theorem fr_drewN {w w' : World} {m : Nat} (h : w' = w.drewN m) : Fr (fun _ => False) w w' := by
  subst h
  exact (Fr.refl _ _).drewN m

theorem own_rb {w : World} {g : Nat} {xs : List UInt8} (h : w.heap[g]? = some (.cells ((mark4 xs 4).map byte).toArray 5 (0, 0))) (hm : xs.length ≤ 140737488360000) : RB w (.slice (some ⟨g, 0, none⟩) (xs.length + 4) (xs.length + 4)) (mark4 xs 4) := by
  have hl := mark4_length xs 4 (by omega)
  have := rb_row h (by rw [hl]; unfold maxLen; omega)
  rw [hl] at this
  exact this

set_option maxRecDepth 100000 in
set_option maxHeartbeats 4000000 in
theorem checks_any (k : Int) (ns : List Int) (tube : ByteArray) (v : Value) (xs : List UInt8) (w : World) (hl : ns.length = 16) (hv : RB w v xs) (hs : xs.length ≤ 140737488351232) :
    Calls Try.prog 6 #[recV k ns tube v] w fun e w' => e = .returned (.bool true) ∧ Fr (fun _ => False) w w' := by
  have hv0 := hv
  obtain ⟨a, c, rfl, -⟩ := hv0
  have HV := Lib.hid hv
  have HXN := Lib.hid hs
  have HBX := Lib.hid (heap_alloc_eq w (.cells (recC k ns tube (.slice a xs.length c)) 29))
  have HFC := Lib.hid ((Fr.refl (fun _ => False) w).alloc (.cells (recC k ns tube (.slice a xs.length c)) 29))
  have hi29 : (Try.prog.info? 29).map (·.size) = some (recC k ns tube (.slice a xs.length c)).size := info29s
  have H14 : Hid (∀ (b' : Option Addr) (c' : Nat) (w' : World), Calls Try.prog 14 #[.agg (recC k ns tube (.slice b' xs.length c'))] w' fun e w'' => e = .returned (.int .i64 (checkE k ns tube xs.length)) ∧ Fr (fun _ => False) w' w'') := Lib.hid (fun b' c' w' => check_any k ns tube b' xs.length c' w' hl)
  have H18 : Hid (∀ (b' : Option Addr) (c' : Nat) (w' : World), Calls Try.prog 18 #[.agg (recC k ns tube (.slice b' xs.length c'))] w' fun e w'' => e = .returned (.int .i64 (sizeN k ns tube xs.length : Int)) ∧ Fr (fun _ => False) w' w'') := Lib.hid (fun b' c' w' => size_any k ns tube b' xs.length c' w' hl)
  have H20 : Hid (∀ (b' : Option Addr) (c' : Nat) (w' : World), Calls Try.prog 20 #[.agg (recC k ns tube (.slice b' xs.length c'))] w' fun e w'' => e = .returned (.int .i64 (checkE k ns tube xs.length)) ∧ Fr (fun _ => False) w' w'') := Lib.hid (fun b' c' w' => check_anyR k ns tube b' xs.length c' w' hl)
  have H21 : Hid (∀ (w' : World), Fr (fun _ => False) w w' → Calls Try.prog 21 #[.agg (recC k ns tube (.slice a xs.length c))] w' fun e w'' => e = .returned (.int .i64 (sizeN k ns tube xs.length : Int)) ∧ Fr (fun _ => False) w' w'') := Lib.hid (fun w' h => refsize_any k ns tube _ xs w' hl (hv.fr h))
  have hcell : Hid (∀ w' : World, w'.heap[w.heap.size]? = some (.cells (recC k ns tube (.slice a xs.length c)) 29 (0, 0)) → w'.cell? ⟨w.heap.size, 18, none⟩ = some (.slice a xs.length c)) := Lib.hid (fun w' h => cell_is h 18 rfl)
  clear hv hs
  generalize checkE k ns tube xs.length = ee at *
  generalize sizeN k ns tube xs.length = sz at *
  unfold recV
  generalize hrc : recC k ns tube (.slice a xs.length c) = rc at *
  have HRC := Lib.hid hrc
  clear hrc
  go_enter Try.func6, Try.ntmps6
  go_wp2_with (first
    | (go_at_call 10; refine (shown_any _).mono ?_; rintro e w1 ⟨rfl, hf⟩; have HFC := Lib.hid (HFC.out.trans hf (fun _ _ h => h)); have HBX := Lib.hid (hf.get HBX.out id); have c18 := hcell.out _ HBX.out; clear hf)
    | (go_at_call 17; refine (lent_any _ xs _ (HV.out.fr HFC.out) (by have := HXN.out; omega)).mono ?_; rintro e w2 ⟨g, hgl, rfl, hgg, hf⟩; have HFC := Lib.hid (HFC.out.trans hf (fun _ _ h => h)); have HBX := Lib.hid (hf.get HBX.out id); have HOW := Lib.hid hgg; have c18 := hcell.out _ HBX.out; have hlt2 : w.heap.size < w2.heap.size := lt_of_heap HBX.out; clear hf hgg)
    | ((refine load_guard _ _ rfl ?_); refine wpList_load_row rfl 29 _ rfl w.heap.size rfl 29 _ (0, 0) _ HBX.out Try.underlying29 rfl hi29 ?_)
    | ((refine store_guard _ _ _ _ rfl ?_); refine wpList_store_agg _ rfl _ _ 29 rfl w2.heap.size 29 _ rc rfl rfl hi29 (heap_alloc_eq _ _) (by rw [← HRC.out]; rfl) (by rw [← HRC.out]; exact one19 _ _ _ _ _ _) ?_; intro w3 hw3 hf3; have hf : Fr (fun _ => False) w2 w3 := ((Fr.refl _ _).alloc _).trans hf3 (fun x hx h => by omega); have HFC := Lib.hid (HFC.out.trans hf (fun _ _ h => h)); have HBX := Lib.hid (hf.get HBX.out id); have HOW := Lib.hid (hf.get HOW.out id); have c18 := hcell.out _ HBX.out; rw [← HRC.out] at hw3; have HIN := Lib.hid hw3; have d18 : w3.cell? ⟨w2.heap.size, 18, none⟩ = some (.slice a xs.length c) := cell_is hw3 18 rfl; have z18 := frozen_of hw3 18; clear hf hf3 hw3)
    | (refine wpList_cuth rfl _ _ rfl (some ⟨g, 0, none⟩) (xs.length + 4) (xs.length + 4) xs.length (mark4 xs 4) rfl rfl (own_rb HOW.out (by have := HXN.out; omega)) (by omega) ?_; intro b' c' hb'; rw [mark4_take] at hb'; have HBI := Lib.hid hb'; clear hb')
    | ((refine load_guard _ _ rfl ?_); refine wpList_load_row rfl 29 _ rfl w2.heap.size rfl 29 (recC k ns tube (.slice b' xs.length c')) (0, 0) _ (heap_setCell_eq 18 _ HIN.out) Try.underlying29 rfl info29s ?_))
  refine (H14.out _ _ _).mono ?_
  rintro e w4 ⟨rfl, hf⟩
  have hne2 : g ≠ w2.heap.size := fun he => by have h1 := HOW.out; rw [he, HIN.out] at h1; simp at h1
  have HIN2 : Hid (w4.heap[w2.heap.size]? = some (.cells (recC k ns tube (.slice b' xs.length c')) 29 (0, 0))) := Lib.hid (hf.get (heap_setCell_eq 18 _ HIN.out) id)
  have HFC := Lib.hid ((HFC.out.setCell (p := ⟨w2.heap.size, 18, none⟩) (.inr (by simp; omega)) (.slice b' xs.length c')).trans hf (fun _ _ h => h))
  have HBX := Lib.hid (hf.get ((heap_setCell_ne _ _ _ _ (by simp; omega)).trans HBX.out) id)
  have HOW := Lib.hid (hf.get ((heap_setCell_ne _ _ _ _ (by simp; exact hne2)).trans HOW.out) id)
  have HIN := HIN2
  have c18 := hcell.out _ HBX.out
  clear hf HIN2
  go_wp2_with (first
    | ((refine load_guard _ _ rfl ?_); refine wpList_load_row rfl 29 _ rfl w2.heap.size rfl 29 _ (0, 0) _ HIN.out Try.underlying29 rfl info29s ?_)
    | ((refine load_guard _ _ rfl ?_); refine wpList_load_row rfl 29 _ rfl w.heap.size rfl 29 _ (0, 0) _ HBX.out Try.underlying29 rfl hi29 ?_)
    | (go_at_call 18; refine (H18.out _ _ _).mono ?_; rintro e w5 ⟨rfl, hf⟩; have HFC := Lib.hid (HFC.out.trans hf (fun _ _ h => h)); have HBX := Lib.hid (hf.get HBX.out id); have HIN := Lib.hid (hf.get HIN.out id); have HOW := Lib.hid (hf.get HOW.out id); have c18 := hcell.out _ HBX.out; clear hf)
    | (go_at_call 14; refine (H14.out _ _ _).mono ?_; rintro e w5 ⟨rfl, hf⟩; have HFC := Lib.hid (HFC.out.trans hf (fun _ _ h => h)); have HBX := Lib.hid (hf.get HBX.out id); have HIN := Lib.hid (hf.get HIN.out id); have HOW := Lib.hid (hf.get HOW.out id); have c18 := hcell.out _ HBX.out; clear hf)
    | (go_at_call 19; refine (still_any g _ xs _ HOW.out (HV.out.fr HFC.out) (by have := HXN.out; omega)).mono ?_; rintro e w5 ⟨rfl, m, hm5⟩; have hf := fr_drewN hm5; clear hm5; have HFC := Lib.hid (HFC.out.trans hf (fun _ _ h => h)); have HBX := Lib.hid (hf.get HBX.out id); have HIN := Lib.hid (hf.get HIN.out id); have HOW := Lib.hid (hf.get HOW.out id); have c18 := hcell.out _ HBX.out; clear hf)
    | (go_at_call 20; rw [← HRC.out]; refine (H20.out _ _ _).mono ?_; rintro e w5 ⟨rfl, hf⟩; have HFC := Lib.hid (HFC.out.trans hf (fun _ _ h => h)); have HBX := Lib.hid (hf.get HBX.out id); have HIN := Lib.hid (hf.get HIN.out id); have HOW := Lib.hid (hf.get HOW.out id); have c18 := hcell.out _ HBX.out; clear hf)
    | (go_at_call 21; refine (H21.out _ HFC.out).mono ?_; rintro e w5 ⟨rfl, hf⟩; have HFC := Lib.hid (HFC.out.trans hf (fun _ _ h => h)); have HBX := Lib.hid (hf.get HBX.out id); have HIN := Lib.hid (hf.get HIN.out id); have HOW := Lib.hid (hf.get HOW.out id); have c18 := hcell.out _ HBX.out; clear hf))
  go_ret
  exact ⟨rfl, HFC.out⟩

end Go.Proofs.Ytpecbhimnpjkdaa
