/- The document's queue: its Clone. -/
import Derived.Test.YtolonoabipnpfaaQRef2
namespace Go.Proofs.Ytolonoabipnpfaa
open Go.RowKit Go.Sb

theorem own_src {E : TypeId} {size n : Nat} {F : Nat → Prop} {w : World} {v : Value} {xs : List Value} (h : Own E size F w v n xs) (h1 : ∀ x ∈ xs, x.oneCell' = true) : Src w v n size xs := by
  refine ⟨h.1, h1, ?_⟩
  rcases h.2 with ⟨rfl, h0⟩ | ⟨g, cap, cur, rfl, hf, hg, r⟩
  · exact .inl ⟨0, by rw [h0], h0⟩
  · refine .inr ⟨_, cap, rfl, fun j u hu => ?_⟩
    have := h.cell (g := g) rfl hu
    rwa [show ((⟨g, 0, none⟩ : Addr).add j) = ⟨g, j, none⟩ from by unfold Addr.add; split <;> simp_all]

theorem own_slice1 {E : TypeId} {size : Nat} {F : Nat → Prop} {w : World} {v : Value} {n : Nat} {xs : List Value} (h : Own E size F w v n xs) : ∃ ad c, v = .slice ad n c := by
  rcases h.shape with ⟨rfl, rfl, _⟩ | ⟨g, cap, rfl, _⟩
  · exact ⟨_, _, rfl⟩
  · exact ⟨_, _, rfl⟩

set_option maxRecDepth 100000 in
set_option maxHeartbeats 1000000 in
theorem rclone_any (F : Nat → Prop) (br : Nat) (tv sv : Value) (g : Int) (L : List (Int × Int)) (w : World) (h : RRep F w br tv sv g L) (hL : L.length ≤ 4398046511104) :
    Calls Try.prog 42 #[.pointer (some ⟨br, 0, none⟩)] w fun e w' => ∃ bc tv' sv', e = .returned (.pointer (some ⟨bc, 0, none⟩)) ∧ RRep (fun k => w.heap.size ≤ k) w' bc tv' sv' g L ∧ Fr (fun _ => False) w w' := by
  have c2 : w.cell? ⟨br, 2, none⟩ = some (.int .i64 g) := cell_is h.head 2 rfl
  have H := Lib.hid h
  have hbr := lt_of_heap h.head
  have hf0 : Fr (fun _ => False) w (w.alloc (.cells #[.slice none 0 0, .slice none 0 0, .int .i64 g] 29)) := (Fr.refl _ w).alloc _
  have h0 := heap_alloc_eq w (.cells #[.slice none 0 0, .slice none 0 0, .int .i64 g] 29)
  have H1 := Lib.hid (h.fr hf0 (fun _ _ _ h => h))
  have HF0 := Lib.hid hf0
  have H0 := Lib.hid h0
  have e0 : (w.alloc (.cells #[.slice none 0 0, .slice none 0 0, .int .i64 g] 29)).cell? ⟨br, 0, none⟩ = some tv := cell_is H1.out.head 0 rfl
  have e1 : (w.alloc (.cells #[.slice none 0 0, .slice none 0 0, .int .i64 g] 29)).cell? ⟨w.heap.size, 0, none⟩ = some (.slice none 0 0) := cell_is h0 0 rfl
  clear h h0 hf0
  generalize hw1 : w.alloc (.cells #[.slice none 0 0, .slice none 0 0, .int .i64 g] 29) = w1 at *
  go_enter Try.func42, Try.ntmps42
  go_wp2_with (fail)
  generalize hbc : w.heap.size = bc at *
  have hsz1 : w1.heap.size = bc + 1 := by rw [← hw1, World.size_alloc, hbc]
  clear hw1 c2
  have HD := Lib.hid H1.out.drew
  have HD0 : Hid (w1.drew.heap[bc]? = _) := Lib.hid H0.out
  have hone1 : ∀ u ∈ L.map t1, u.oneCell' = true := fun u hu => by obtain ⟨p, _, rfl⟩ := List.mem_map.1 hu; rfl
  have hone2 : ∀ u ∈ L.map t2, u.oneCell' = true := fun u hu => by obtain ⟨p, _, rfl⟩ := List.mem_map.1 hu; rfl
  go_region_law (refine step_append_Own rfl _ _ 27 rfl 3 (.int .i64 0) 1 8 Try.underlying27 Try.info3 rfl (by decide) (.slice none 0 0) 0 [] rfl (Own.nil 3 1 (fun k => bc ≤ k) _) tv L.length (L.map t1) rfl (own_src HD.out.ts hone1) (by unfold maxLen; omega) (by omega) ?_; intro v3 w3 hv3 hf3 hn3 hd3; have hf3' : Fr (fun _ => False) w1.drew w3 := hf3.mono (fun k _ h => by cases h); have hh3 := hf3'.get HD0.out id; have hc3 : w3.cell? ⟨bc, 0, none⟩ = some (.slice none 0 0) := cell_is hh3 0 rfl; have hz3 := frozen_of hh3 0; obtain ⟨ad3, k3, rfl⟩ := own_slice1 hv3; have HF3 := Lib.hid hf3'; have HV3 := Lib.hid hv3; have HH3 := Lib.hid hh3; clear hv3 hf3 hn3 hd3 hh3 hf3')
  all_goals
    have hf4 : Fr (fun _ => False) w (w3.setCell ⟨bc, 0, none⟩ (.slice ad3 L.length k3)) := (HF0.out.drew.trans HF3.out (fun _ _ h => h)).setCell (p := ⟨bc, 0, none⟩) (.inr (by rw [hbc]; exact Nat.le_refl _)) _
    have hh4 := heap_setCell_eq 0 (.slice ad3 L.length k3) HH3.out
    have hv4 : Own 3 1 (fun k => bc ≤ k) (w3.setCell ⟨bc, 0, none⟩ (.slice ad3 L.length k3)) (.slice ad3 L.length k3) L.length (L.map t1) :=
      ((by have := HV3.out; simpa using this : Own 3 1 (ex (fun k => bc ≤ k) w1.drew) w3 (.slice ad3 L.length k3) L.length (L.map t1)).mono (fun k _ h => h.elim id (fun h => by simp at h; omega))).of (fun k _ hb => heap_setCell_ne _ _ _ _ (fun e => own_ne HH3.out (by decide) HV3.out (by simpa using by rw [hb, e])))
    simp only [List.setIfInBounds_toArray, List.set_cons_zero] at hh4
    have HF4 := Lib.hid hf4
    have HH4 := Lib.hid hh4
    have HV4 := Lib.hid hv4
    clear HV3 HH3 HF3 hc3 hz3 e0 e1 hf4 hh4 hv4
    go_wp2_with (fail)
    generalize w3.setCell ⟨bc, 0, none⟩ (.slice ad3 L.length k3) = w4 at *
    have H4 := Lib.hid (H.out.fr HF4.out (fun _ _ _ h => h))
    have e5 : w4.cell? ⟨br, 1, none⟩ = some sv := cell_is H4.out.head 1 rfl
    have e6 : w4.cell? ⟨bc, 1, none⟩ = some (.slice none 0 0) := cell_is HH4.out 1 rfl
    have HD4 := Lib.hid H4.out.drew
    have HDH4 : Hid (w4.drew.heap[bc]? = _) := Lib.hid HH4.out
    go_region_law (refine step_append_Own rfl _ _ 27 rfl 3 (.int .i64 0) 1 8 Try.underlying27 Try.info3 rfl (by decide) (.slice none 0 0) 0 [] rfl (Own.nil 3 1 (fun k => w4.heap.size ≤ k) _) sv L.length (L.map t2) rfl (own_src HD4.out.xs hone2) (by unfold maxLen; omega) (by omega) ?_; intro v5 w5 hv5 hf5 hn5 hd5; have hf5' : Fr (fun _ => False) w4.drew w5 := hf5.mono (fun k _ h => by cases h); have hh5 := hf5'.get HDH4.out id; have hc5 : w5.cell? ⟨bc, 1, none⟩ = some (.slice none 0 0) := cell_is hh5 1 rfl; have hz5 := frozen_of hh5 1; obtain ⟨ad5, k5, rfl⟩ := own_slice1 hv5; have HF5 := Lib.hid hf5'; have HV5 := Lib.hid hv5; have HH5 := Lib.hid hh5; clear hv5 hf5 hn5 hd5 hh5 hf5')
    all_goals
      go_wp2_with (fail)
      go_ret
      have hsz4 := HF4.out.size
      have hb4 := lt_of_heap HH4.out
      have hf6 : Fr (fun _ => False) w (w5.setCell ⟨bc, 1, none⟩ (.slice ad5 L.length k5)) := (HF4.out.drew.trans HF5.out (fun _ _ h => h)).setCell (p := ⟨bc, 1, none⟩) (.inr (by rw [hbc]; exact Nat.le_refl _)) _
      have hh6 := heap_setCell_eq 1 (.slice ad5 L.length k5) HH5.out
      have hv5 := HV5.out
      try rw [Nat.zero_add] at hv5
      try rw [List.nil_append] at hv5
      refine ⟨bc, .slice ad3 L.length k3, .slice ad5 L.length k5, rfl, ⟨by simpa using hh6, ?_, ?_, ?_, by show w.heap.size ≤ bc; omega⟩, hf6⟩
      · refine ((HV4.out.drew.fr HF5.out (fun _ _ _ h => h)).of (fun k _ hb => heap_setCell_ne _ _ _ _ (fun e => own_ne HH4.out (by decide) HV4.out (by rw [hb, e])))).mono (fun k _ h => by omega)
      · exact (hv5.mono (fun k _ h => h.elim (fun h => by omega) (fun h => by simp at h; omega))).of (fun k _ hb => heap_setCell_ne _ _ _ _ (fun e => own_ne HH5.out (by decide) hv5 (by rw [hb, e])))
      · intro k h1 h2
        have k1 := (HV4.out.block k h1).2
        rcases (hv5.block k h2).1 with h | h
        · omega
        · simp at h
          omega

end Go.Proofs.Ytolonoabipnpfaa
