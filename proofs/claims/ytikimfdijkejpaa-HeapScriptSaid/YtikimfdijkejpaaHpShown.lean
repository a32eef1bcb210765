/- The document's example on heaps. -/
import Derived.Test.YtikimfdijkejpaaHpOrd
import Derived.Test.YtikimfdijkejpaaHTClone
namespace Go.Proofs.Ytikimfdijkejpaa.HT
open Go.RowKit Go.Sb

set_option maxRecDepth 100000 in
set_option maxHeartbeats 2000000 in
theorem shown_any (w : World) : Calls Try.prog 8 #[] w fun e w' => e = .returned (.bool true) ∧ Fr (fun _ => False) w w' := by
  go_enter Try.func8, Try.ntmps8
  go_wp2_with (first
    | (go_at_call 30; refine (made_any 0 w (.inl rfl)).mono ?_; rintro e w1 ⟨bh, bm, rfl, hr, hf⟩; have HR0 : Hid (HRep 99 101 3 (fun k => w.heap.size ≤ k) w1 bh (.func (.func 52) #[] #[]) 0 (([] : List (Int × (Int × Int))).map en) (.slice none 0 0) bm []) := Lib.hid hr; have HF0 := Lib.hid hf; clear hr hf)
    | (go_at_call 26; refine (push_any (key := kRise) rise_spec (3, 0) HR1.out (by decide) (by decide) HL1.out HT1.out (fun _ _ => trivial) trivial (c := 0) trivial (fun k h => h.elim)).mono ?_; rintro e w3 ⟨rfl, ⟨lv2, m2, hr2⟩, _, hf2⟩; have HR2 : Hid (HRep 99 101 3 (fun k => w.heap.size ≤ k) w3 bh (.func (.func 52) #[] #[]) 2 ([(2, (3, 0)), (1, (5, 0))].map en) lv2 bm m2) := Lib.hid (by rw [← shown_list]; exact hr2.mono (fun k _ h => h.elim id (fun h => Nat.le_trans HF1.out.size h))); have HF2 : Hid (Fr (fun _ => False) w w3) := Lib.hid (HF1.out.trans hf2 (fun k hk h => h.elim (fun h => by omega) id)); clear hr2 hf2)
    | (go_at_call 26; refine (push_any (key := kRise) rise_spec (5, 0) HR0.out (by decide) (by decide) (by decide) (by simp) (by simp) trivial (c := 0) trivial (fun k h => h.elim)).mono ?_; rintro e w2 ⟨rfl, ⟨lv1, m1, hr1⟩, _, hf1⟩; have HR1 : Hid (HRep 99 101 3 (fun k => w.heap.size ≤ k) w2 bh (.func (.func 52) #[] #[]) 1 ((pushL kRise [] (1, (5, 0))).map en) lv1 bm m1) := Lib.hid (HRep.mono hr1 (fun k _ h => h.elim id (fun h => Nat.le_trans HF0.out.size h))); have HF1 : Hid (Fr (fun _ => False) w w2) := Lib.hid (HF0.out.trans hf1 (fun k hk h => h.elim (fun h => by omega) id)); have HL1 : Hid ((pushL kRise [] (1, (5, 0))).length ≤ 8796093022208) := Lib.hid (by rw [(pushL_perm _ _).length_eq]; decide); have HT1 : Hid (∀ p ∈ pushL kRise [] (1, (5, 0)), p.1 ≤ (1 : Int)) := Lib.hid (fun p hp => by have := (pushL_perm _ _).mem_iff.1 hp; simp at this; subst this; decide); clear hr1 hf1)
    | (go_at_call 40; refine (clone_any HR2.out (by decide)).mono ?_; rintro e w4 ⟨b3, m3, lv3, rfl, _, hf3⟩; have HR3 := Lib.hid (HR2.out.fr hf3 (fun _ _ _ h => h)); have HF3 : Hid (Fr (fun _ => False) w w4) := Lib.hid (HF2.out.trans hf3 (fun _ _ h => h)); clear hf3)
    | (go_at_call 41; refine (top_some HR3.out rfl).mono ?_; rintro e w5 ⟨rfl, hf4⟩; dsimp only [thV]; have HR4 := Lib.hid (HR3.out.fr hf4 (fun _ _ _ h => h)); have HF4 : Hid (Fr (fun _ => False) w w5) := Lib.hid (HF3.out.trans hf4 (fun _ _ h => h)); clear hf4)
    | (go_at_call 25; refine (len_any (HR4.out.fr ((Fr.refl (fun _ => False) w5).alloc _) (fun _ _ _ h => h))).mono ?_; rintro e w6 ⟨rfl, rfl⟩))
  go_ret
  exact ⟨rfl, HF4.out.alloc _⟩

end Go.Proofs.Ytikimfdijkejpaa.HT
