/- FrameAll, walked. -/
import Derived.Test.YtgobbgklmjnnlaaFrGives
import Derived.Test.YtgobbgklmjnnlaaFrShown
namespace Go.Proofs.Ytgobbgklmjnnlaa
open Go.RowKit Go.Sb
attribute [local go_sem] Oper.semAt_some

set_option maxRecDepth 100000 in
set_option maxHeartbeats 4000000 in
theorem all_law (file : Int) (v : Value) (bs : List UInt8) (stop : Int) (w : World) (hv : RB w v bs) (hm : bs.length ≤ 1048576) (hs : stop ≤ 9223372036854775807) :
    Calls Try.prog 10 #[.int .i64 file, v, .int .i64 stop] w fun e w' => e = .returned (.bool true) ∧ Fr (fun _ => False) w w' := by
  have HV := Lib.hid hv
  obtain ⟨ba, bc, rfl, hjunk⟩ := hv
  clear hjunk
  go_enter Try.func10, Try.ntmps10
  go_wp2_with (fail)
  refine (shown_any w).mono ?_
  rintro e w1 ⟨rfl, hf1⟩
  have HF1 := Lib.hid hf1
  clear hf1
  go_wp2_with (fail)
  refine (refall_any file ba bc bs w1 (HV.out.fr HF1.out) hm).mono ?_
  rintro e w2 ⟨l, ws, rfl, hw, hk, hf2⟩
  have HW2 := Lib.hid hw
  have HK := Lib.hid hk
  have HF2 := Lib.hid (HF1.out.trans hf2 (fun _ _ h => h))
  obtain ⟨wa, wc, rfl⟩ := hw.shape
  clear hw hk hf2
  have h29 := heap_alloc_eq w2 (.cells #[.slice none 0 0, .slice none 0 0] 29)
  have H29 := Lib.hid h29
  have HF3 := Lib.hid (HF2.out.trans ((Fr.refl _ w2).alloc (.cells #[.slice none 0 0, .slice none 0 0] 29)) (fun _ _ h => h))
  have HW3 := Lib.hid (HW2.out.fr ((Fr.refl (fun _ => False) w2).alloc (.cells #[.slice none 0 0, .slice none 0 0] 29)) (fun _ _ _ h => h))
  clear h29
  have hst : stop < 1 ∨ 1 ≤ stop := by omega
  rcases hst with hst | hst
  all_goals
    go_wp2_with (fail)
    refine (lent_any _ bs _ (HV.out.fr HF3.out) (by omega)).mono ?_
    rintro e w4 ⟨v11, rfl, hv4, hf4, hn4⟩
    obtain ⟨g, c, rfl⟩ := own_nn' hv4 hn4
    have hl8 : (bs ++ List.replicate 8 (0xA5 : UInt8)).length = bs.length + 8 := by simp
    have hcut := OB.cutn (n := bs.length) hv4 (by simp)
    rw [List.take_left] at hcut
    have HI := Lib.hid hcut
    have HV4 := Lib.hid hv4
    have HF4 := Lib.hid (HF3.out.trans hf4 (fun _ _ h => h))
    have H294 := Lib.hid (hf4.get H29.out id)
    have HW4 := Lib.hid (HW3.out.fr hf4 (fun _ _ _ h => h))
    have hcap : bs.length + 8 ≤ c ∧ c ≤ maxLen := by
      rcases hv4.2 with ⟨h, _⟩ | ⟨g', cap, cur, h, _, _, h1, h2, _⟩
      · cases h
      · cases h
        rw [hl8] at h1
        exact ⟨h1, h2⟩
    unfold maxLen at hcap
    have hhl := lt_of_heap H29.out
    have hh2 : w2.heap.size ≤ w2.heap.size := Nat.le_refl _
    clear hv4 hf4 hn4 hcut
    generalize hh : w2.heap.size = h at *
    rw [hl8]
    rw [hl8] at HV4
    go_wp2_with (fail)
    refine (whole_any file ⟨g, 0, none⟩ bs.length c bs w4 HI.out.rb (by omega)).mono ?_
    rintro e w5 ⟨rfl, hf5⟩
    have HF5 := Lib.hid (HF4.out.trans hf5 (fun _ _ h => h))
    have H295 := Lib.hid (hf5.get H294.out id)
    have HW5 := Lib.hid (HW4.out.fr hf5 (fun _ _ _ h => h))
    have HV5 : Hid (RB w5 (.slice (some ⟨g, 0, none⟩) (bs.length + 8) c) (bs ++ List.replicate 8 0xA5)) := Lib.hid (by
      have h1 := Own.mono (G := fun _ => True) (Own.fr HV4.out hf5 (fun _ _ _ h => h)) (fun _ _ _ => trivial)
      have h2 : OB 5 (fun _ => True) w5 (.slice (some ⟨g, 0, none⟩) (bs.length + 8) c) (bs ++ List.replicate 8 0xA5) := h1
      exact h2.rb)
    clear hf5
    go_wp2_with (fail)
    refine (refwhole_any file ba bc bs w5 (HV.out.fr HF5.out) hm).mono ?_
    rintro e w6 ⟨rfl, hf6⟩
    have HF6 := Lib.hid (HF5.out.trans hf6 (fun _ _ h => h))
    have H296 := Lib.hid (hf6.get H295.out id)
    have HW6 := Lib.hid (HW5.out.fr hf6 (fun _ _ _ h => h))
    have HST := Lib.hid (still_any _ _ bs w6 (HV5.out.fr hf6) (HV.out.fr HF6.out))
    have hne : (whOf (frames file 0 bs) != whOf (frames file 0 bs)) = false := by simp
    clear hf6
    generalize whOf (frames file 0 bs) = z at *
    go_wp2_with (fail)
    refine HST.out.mono ?_
    rintro e w7 ⟨rfl, m7, rfl⟩
    have HF7 := Lib.hid (HF6.out.drewN m7)
    have H297 : Hid ((w6.drewN m7).heap[h]? = _) := Lib.hid H296.out
    have HW7 : Hid (WRep _ (w6.drewN m7) _ ws) := Lib.hid (HW6.out.fr ((Fr.refl (fun _ => False) w6).drewN m7) (fun _ _ _ h => h))
    go_wp2_with (fail)
    refine (gives_any file ba bc bs wa wc ws _ h _ (w6.drewN m7) (HV.out.fr HF7.out) hm HW7.out HK.out (by omega) (by omega) H297.out).mono ?_
    rintro e w8 ⟨rfl, ⟨vo, vw, L, B, hB1, hB2, hheld, hlim, hln⟩, hf8⟩
    have hsz := HF2.out.size
    have HF8 := Lib.hid (HF7.out.trans hf8 (fun k hk e => by omega))
    have HHD := Lib.hid hheld
    have HLM := Lib.hid hlim
    have HHO := Lib.hid (holds_any w8 h vo vw L hheld.rows (fun j e he => ⟨(hheld.pile.rd j e he).1.1, (hheld.pile.rd j e he).2.1⟩) (by omega))
    have hsz7 := HF7.out.size
    clear hf8 hheld hlim
    go_wp2_with (fail)
    refine HHO.out.mono ?_
    rintro e w9 ⟨rfl, m9, rfl⟩
    go_wp2_with (fail)
    refine (spoil_any (F := fun k => k = h ∨ B ≤ k) (w8.drewN m9) h 66008 vo vw L (HHD.out.none ((Fr.refl (fun _ => False) w8).drewN m9)) (fun k hk => .inr (by simp at hk; omega)) (by omega) HLM.out (by omega)).mono ?_
    rintro e w10 ⟨rfl, hf10⟩
    have HF10 := Lib.hid ((HF8.out.drewN m9).trans hf10 (fun k hk e => by omega))
    clear hf10
    go_wp2_with (fail)
    go_ret
    exact ⟨rfl, HF10.out⟩

end Go.Proofs.Ytgobbgklmjnnlaa
