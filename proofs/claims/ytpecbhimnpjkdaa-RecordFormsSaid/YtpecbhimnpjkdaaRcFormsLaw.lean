/- RecordForms answers true, whatever it is handed, and leaves that as it was; no condition. -/
import Derived.Test.YtpecbhimnpjkdaaRcForms
import Derived.Test.YtpecbhimnpjkdaaRcOpen
namespace Go.Proofs.Ytpecbhimnpjkdaa.forms
open Go.ChangeShapes Go.WideShapes Go.ChangeAt Go.RowKit Go.Sb

set_option maxRecDepth 100000 in
theorem lifted (os : Os) (started : os.Started) (H : Type) (enc : TypeId × Value → H) :
    ReturnsInHanded {} Try.checked os 3 .any (Rows.recordFormsSpec.pre6 enc Try.prog Try.f3 Rows.recordFormsRow.domain false) (Rows.recordFormsSpec.post enc Try.prog Try.f3 false true false false) := by
  refine returnsInHanded_of_change_sized (C := Try.checked) own started (by kernel_rfl) Try.func3
    (ChangeSpec.witness6 (enc := enc) (C := Try.checked) false ⟨#[], #[.slice none 0 0], []⟩ 8 (by kernel_rfl) (by kernel_rfl) (by kernel_rfl) (by kernel_rfl)) ?_
  intro W base args ds gs before hval0 hW _ hsz _
  have hval : ∀ (j : Nat) t v, Try.f3.params[j]? = some t → args[j]? = some v → Value.okWide Try.prog W .any base t v := hval0
  have hW' := hW
  obtain ⟨p, q, hA0, hV, rfl, _, _⟩ := hW
  have hA : DataW.TrodAll enc Try.prog W 0 (fun _ => true) true Try.f3.params.toList args.toList ds p := hA0
  rw [Try.params3] at hA hval
  obtain ⟨v0, vs0, d0, ds0, p0, q0, hargs, rfl, rfl, h0, r0⟩ := trodAll_cons hA
  obtain ⟨rfl, rfl, rfl⟩ := trodAll_nil r0
  obtain rfl : args = #[v0] := by cases args; simp_all
  obtain ⟨rfl, rfl⟩ := trodVars_none hV
  obtain ⟨x0, h0, e0⟩ := open_bytes Try.underlying22 Try.underlying5 cells5 (hval 0 22 v0 rfl rfl) h0
  have s0 := short_bytes hsz (j := 0) (t := 22) rfl rfl Try.underlying22 bytes5 e0
  have hps : ∀ t ∈ Try.f3.params.toList, Try.prog.readableRec t = true ∧ t < Try.prog.types.size := by
    rw [Try.params3]
    intro t ht
    simp only [List.mem_cons, List.not_mem_nil, or_false] at ht
    subst ht
    all_goals exact ⟨by kernel_rfl, of_decide_eq_true (by kernel_rfl)⟩
  refine (forms_any v0 x0 W h0 s0).mono fun e W' ⟨he, hg⟩ => ⟨_, he, ?_⟩
  exact law_post (tb := 4) (by kernel_rfl) Try.underlying4 laidOut hps rfl hW' rfl (hg.below (fun _ h => h.elim) (Nat.le_refl _))

theorem recordForms_holds : Rows.RecordFormsSaid :=
  OpenClaim.holds_of_wide 3 Try.f3 rfl rfl rfl rfl rfl rfl rfl ⟨rfl, rfl, rfl, rfl, rfl⟩ rfl rfl rfl rfl rfl (by kernel_rfl) Try.func3 (by kernel_rfl)
    (of_decide_eq_true (by kernel_rfl)) (by unfold Func.isWrapper; first | (rw [if_pos (by decide +kernel)]; kernel_rfl) | (rw [if_neg (by decide +kernel)]; exact ⟨rfl, rfl⟩))
    (fun os started H enc _ => lifted os started H enc)
#print axioms recordForms_holds
end Go.Proofs.Ytpecbhimnpjkdaa.forms
