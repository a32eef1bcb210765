/- HeapScript answers true, whatever it is handed, and leaves that as it was; no condition. -/
import Derived.Test.YtikimfdijkejpaaHpScript
namespace Go.Proofs.Ytikimfdijkejpaa.script
open Go.ChangeShapes Go.WideShapes Go.ChangeAt Go.RowKit Go.Sb

set_option maxRecDepth 100000 in
theorem lifted (os : Os) (started : os.Started) (H : Type) (enc : TypeId × Value → H) :
    ReturnsInHanded {} Try.checked os 6 .any (Rows.heapScriptSpec.pre6 enc Try.prog Try.f6 Rows.heapScriptRow.domain false) (Rows.heapScriptSpec.post enc Try.prog Try.f6 false true false false) := by
  refine returnsInHanded_of_change_sized (C := Try.checked) own' started (by kernel_rfl) Try.func6
    (ChangeSpec.witness6 (enc := enc) (C := Try.checked) false ⟨#[], #[.slice none 0 0], []⟩ 8 (by kernel_rfl) (by kernel_rfl) (by kernel_rfl) (by kernel_rfl)) ?_
  intro W base args ds gs before hval0 hW _ hsz _
  have hval : ∀ (j : Nat) t v, Try.f6.params[j]? = some t → args[j]? = some v → Value.okWide Try.prog W .any base t v := hval0
  have hW' := hW
  obtain ⟨p, q, hA0, hV, rfl, _, _⟩ := hW
  have hA : DataW.TrodAll enc Try.prog W 0 (fun _ => true) true Try.f6.params.toList args.toList ds p := hA0
  rw [Try.params6] at hA hval
  obtain ⟨v0, vs0, d0, ds0, p0, q0, hargs, rfl, rfl, h0, r0⟩ := trodAll_cons hA
  obtain ⟨rfl, rfl, rfl⟩ := trodAll_nil r0
  obtain rfl : args = #[v0] := by cases args; simp_all
  obtain ⟨rfl, rfl⟩ := trodVars_none hV
  obtain ⟨a0, len, cap, rfl⟩ := okWide_slice Try.underlying48 (hval 0 48 v0 rfl rfl)
  obtain ⟨fuel, hf⟩ := h0
  have hps : ∀ t ∈ Try.f6.params.toList, Try.prog.readableRec t = true ∧ t < Try.prog.types.size := by
    rw [Try.params6]
    intro t ht
    simp only [List.mem_cons, List.not_mem_nil, or_false] at ht
    subst ht
    exact ⟨by kernel_rfl, of_decide_eq_true (by kernel_rfl)⟩
  have fin : Calls Try.prog 6 #[.slice a0 len cap] W fun e w' => e = .returned (.bool true) ∧ Fr (fun _ => False) W w' := by
    rcases open_acts hf with hcs | ⟨b, o, len', cap', sp, th, elems, spare, hcs, hx, hel, hth⟩
    · simp [Value.cells] at hcs
      obtain ⟨rfl, rfl, rfl⟩ := hcs
      exact HT.script_any none 0 0 0 0 (fun _ => (0, 0, 0, (0, 0))) W (by omega) ⟨fun h => absurd h (by omega), fun i hi => absurd hi (by omega)⟩
    · simp [Value.cells] at hcs
      obtain ⟨rfl, rfl, rfl⟩ := hcs
      dsimp only at hx
      have hs := sized_slice hsz (j := 0) (t := 48) (elems := elems) (spare := spare) rfl (by simp [hx]) Try.underlying48
      rw [show Try.checked.prog.bytesOf 55 = 40 from bytes55] at hs
      unfold reachBytes at hs
      exact HT.script_any (some ⟨b, o, sp⟩) b o len cap th W (by omega) hth
  refine fin.mono fun e W' ⟨he, hg⟩ => ⟨_, he, ?_⟩
  exact law_post (tb := 4) (by kernel_rfl) Try.underlying4 laidOut' hps rfl hW' rfl (hg.below (fun _ h => h.elim) (Nat.le_refl _))

theorem heapScript_holds : Rows.HeapScriptSaid :=
  OpenClaim.holds_of_wide 6 Try.f6 rfl rfl rfl rfl rfl rfl rfl ⟨rfl, rfl, rfl, rfl, rfl⟩ rfl rfl rfl rfl rfl (by kernel_rfl) Try.func6 (by kernel_rfl)
    (of_decide_eq_true (by kernel_rfl)) (by unfold Func.isWrapper; first | (rw [if_pos (by decide +kernel)]; kernel_rfl) | (rw [if_neg (by decide +kernel)]; exact ⟨rfl, rfl⟩))
    (fun os started H enc _ => lifted os started H enc)
#print axioms heapScript_holds
end Go.Proofs.Ytikimfdijkejpaa.script
