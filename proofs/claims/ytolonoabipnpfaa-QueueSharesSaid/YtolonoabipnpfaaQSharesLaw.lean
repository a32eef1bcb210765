/- QueueShares answers true, whatever it is handed, and leaves that as it was; no condition. -/
import Derived.Test.YtolonoabipnpfaaQShares
import Derived.Test.YtolonoabipnpfaaClose
import Derived.SizedLaws
namespace Go.Proofs.Ytolonoabipnpfaa.shares
open Go.ChangeShapes Go.WideShapes Go.ChangeAt Go.RowKit Go.Sb

theorem own : ownKnob Try.prog.godebug = none := by kernel_rfl
theorem laidOut : laidOutB Try.prog = true := by kernel_rfl
theorem cells3 : Try.prog.cellsOf 3 = 1 := by kernel_rfl
theorem bytes3 : Try.prog.bytesOf 3 = 8 := by kernel_rfl

set_option maxRecDepth 100000 in
theorem lifted (os : Os) (started : os.Started) (H : Type) (enc : TypeId × Value → H) :
    ReturnsInHanded {} Try.checked os 6 .any (Rows.queueSharesSpec.pre6 enc Try.prog Try.f6 Rows.queueSharesRow.domain false) (Rows.queueSharesSpec.post enc Try.prog Try.f6 false true false false) := by
  refine returnsInHanded_of_change_sized (C := Try.checked) own started (by kernel_rfl) Try.func6
    (ChangeSpec.witness6 (enc := enc) (C := Try.checked) false ⟨#[], #[.slice none 0 0, .int .i64 0], []⟩ 8 (by kernel_rfl) (by kernel_rfl) (by kernel_rfl) (by kernel_rfl)) ?_
  intro W base args ds gs before hval0 hW _ hsz _
  have hval : ∀ (j : Nat) t v, Try.f6.params[j]? = some t → args[j]? = some v → Value.okWide Try.prog W .any base t v := hval0
  have hW' := hW
  obtain ⟨p, q, hA0, hV, rfl, _, _⟩ := hW
  have hA : DataW.TrodAll enc Try.prog W 0 (fun _ => true) true Try.f6.params.toList args.toList ds p := hA0
  rw [Try.params6] at hA hval
  obtain ⟨v0, v1, d0, d1, p0, p1, rfl, rfl, rfl, h0, h1⟩ := trodAll_two hA
  obtain ⟨rfl, rfl⟩ := trodVars_none hV
  obtain ⟨m, rfl, rfl, rfl, wm⟩ := open_int Try.underlying3 (hval 1 3 v1 rfl rfl) h1
  obtain ⟨a0, len, cap, rfl⟩ := okWide_slice Try.underlying27 (hval 0 27 v0 rfl rfl)
  obtain ⟨fuel, hf⟩ := h0
  have hps : ∀ t ∈ Try.f6.params.toList, Try.prog.readableRec t = true ∧ t < Try.prog.types.size := by
    rw [Try.params6]
    intro t ht
    simp only [List.mem_cons, List.not_mem_nil, or_false] at ht
    rcases ht with rfl | rfl
    · exact ⟨by kernel_rfl, of_decide_eq_true (by kernel_rfl)⟩
    · exact ⟨by kernel_rfl, of_decide_eq_true (by kernel_rfl)⟩
  have fin : Calls Try.prog 6 #[.slice a0 len cap, .int .i64 m] W fun e w' => e = .returned (.bool true) ∧ Fr (fun _ => False) W w' := by
    rcases open_ints Try.underlying27 Try.underlying3 cells3 hf with ⟨hcs, hx⟩ | ⟨a, len', cap', zs, hcs, _, hl, hmx, hz, hx, hcell, hwz⟩
    · simp [Value.cells] at hcs
      obtain ⟨rfl, rfl, rfl⟩ := hcs
      exact shares_any none 0 0 0 0 [] m W (fun h => absurd h (by omega)) rfl (fun _ => rfl) (by omega) (fun i hi => absurd hi (by omega))
    · simp [Value.cells] at hcs
      obtain ⟨rfl, rfl, rfl⟩ := hcs
      simp only [if_true] at hz
      obtain ⟨b, off, spot⟩ := a
      have hspot : 0 < len → spot = none := fun h0 => by simpa [Addr.add] using World.cell?_spot (hcell 0 (by omega))
      have hsl : len ≤ 17592186044416 := by
        simp only [Prod.mk.injEq] at hx
        obtain ⟨rfl, _⟩ := hx
        have hs := sized_slice hsz (j := 0) (t := 27) rfl rfl Try.underlying27
        rw [show Try.checked.prog.bytesOf 3 = 8 from bytes3] at hs
        unfold reachBytes at hs
        simp [lits] at hs
        omega
      refine shares_any (some ⟨b, off, spot⟩) b off len cap (zs.take len) m W (fun h => by rw [hspot h]) (by rw [List.length_take]; omega) (fun h => by cases h) hsl (fun i hi => ?_)
      have hs := hspot (by omega)
      subst hs
      have h := hcell i (by omega)
      rw [show ((⟨b, off, none⟩ : Addr).add i) = ⟨b, off + i, none⟩ from by unfold Addr.add; split <;> simp_all] at h
      rw [h]
      congr 2
      simp [List.getD_eq_getElem?_getD, hi]
  refine fin.mono fun e W' ⟨he, hg⟩ => ⟨_, he, ?_⟩
  exact law_post (tb := 4) (by kernel_rfl) Try.underlying4 laidOut hps rfl hW' rfl (hg.below (fun _ h => h.elim) (Nat.le_refl _))

theorem queueShares_holds : Rows.QueueSharesSaid :=
  OpenClaim.holds_of_wide 6 Try.f6 rfl rfl rfl rfl rfl rfl rfl ⟨rfl, rfl, rfl, rfl, rfl⟩ rfl rfl rfl rfl rfl (by kernel_rfl) Try.func6 (by kernel_rfl)
    (of_decide_eq_true (by kernel_rfl)) (by unfold Func.isWrapper; first | (rw [if_pos (by decide +kernel)]; kernel_rfl) | (rw [if_neg (by decide +kernel)]; exact ⟨rfl, rfl⟩))
    (fun os started H enc _ => lifted os started H enc)
#print axioms queueShares_holds
end Go.Proofs.Ytolonoabipnpfaa.shares
