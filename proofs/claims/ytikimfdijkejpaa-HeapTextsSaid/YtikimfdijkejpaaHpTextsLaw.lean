/- HeapTexts answers true, whatever it is handed, and leaves that as it was; no condition. -/
import Derived.Test.YtikimfdijkejpaaHpTexts
import Derived.Test.YtikimfdijkejpaaClose
import Derived.SliceStrings
import Derived.SizedLaws
namespace Go.Proofs.Ytikimfdijkejpaa.texts
open Go.ChangeShapes Go.WideShapes Go.ChangeAt Go.RowKit Go.Sb

theorem own : ownKnob Try.prog.godebug = none := by kernel_rfl
theorem laidOut : laidOutB Try.prog = true := by kernel_rfl
theorem cells3 : Try.prog.cellsOf 3 = 1 := by kernel_rfl
theorem cells9 : Try.prog.cellsOf 9 = 1 := by kernel_rfl
theorem bytes9 : Try.prog.bytesOf 9 = 16 := by kernel_rfl
theorem bytes3 : Try.prog.bytesOf 3 = 8 := by kernel_rfl

theorem add_at (b o j : Nat) : (⟨b, o, none⟩ : Addr).add j = ⟨b, o + j, none⟩ := by unfold Addr.add; split <;> simp_all

set_option maxRecDepth 100000 in
theorem lifted (os : Os) (started : os.Started) (H : Type) (enc : TypeId × Value → H) :
    ReturnsInHanded {} Try.checked os 4 .any (Rows.heapTextsSpec.pre6 enc Try.prog Try.f4 Rows.heapTextsRow.domain false) (Rows.heapTextsSpec.post enc Try.prog Try.f4 false true false false) := by
  refine returnsInHanded_of_change_sized (C := Try.checked) own started (by kernel_rfl) Try.func4
    (ChangeSpec.witness6 (enc := enc) (C := Try.checked) false ⟨#[], #[.slice none 0 0, .slice none 0 0], []⟩ 8 (by kernel_rfl) (by kernel_rfl) (by kernel_rfl) (by kernel_rfl)) ?_
  intro W base args ds gs before hval0 hW _ hsz _
  have hval : ∀ (j : Nat) t v, Try.f4.params[j]? = some t → args[j]? = some v → Value.okWide Try.prog W .any base t v := hval0
  have hW' := hW
  obtain ⟨p, q, hA0, hV, rfl, _, _⟩ := hW
  have hA : DataW.TrodAll enc Try.prog W 0 (fun _ => true) true Try.f4.params.toList args.toList ds p := hA0
  rw [Try.params4] at hA hval
  obtain ⟨v0, v1, d0, d1, p0, p1, rfl, rfl, rfl, h0, h1⟩ := trodAll_two hA
  obtain ⟨rfl, rfl⟩ := trodVars_none hV
  obtain ⟨a0, len, cap, rfl⟩ := okWide_slice Try.underlying36 (hval 0 36 v0 rfl rfl)
  obtain ⟨a1, len1, cap1, rfl⟩ := okWide_slice Try.underlying22 (hval 1 22 v1 rfl rfl)
  obtain ⟨fuel, hf⟩ := h0
  obtain ⟨fuel1, hf1⟩ := h1
  have hps : ∀ t ∈ Try.f4.params.toList, Try.prog.readableRec t = true ∧ t < Try.prog.types.size := by
    rw [Try.params4]
    intro t ht
    simp only [List.mem_cons, List.not_mem_nil, or_false] at ht
    rcases ht with rfl | rfl
    all_goals exact ⟨by kernel_rfl, of_decide_eq_true (by kernel_rfl)⟩
  obtain ⟨tb, tz, ss, hsa, hn, hs⟩ : ∃ (tb tz : Nat) (ss : Nat → ByteArray), (0 < len → a0 = some ⟨tb, tz, none⟩) ∧ len ≤ 8796093021952 ∧ ∀ i, i < len → W.cell? ⟨tb, tz + i, none⟩ = some (.string (ss i)) := by
    rcases open_strings Try.underlying36 Try.underlying9 cells9 hf with ⟨hcs, hx⟩ | ⟨a, len', cap', zs, hcs, _, hl, hmx, hz, hx, hcell, _⟩
    · simp [Value.cells] at hcs
      obtain ⟨rfl, rfl, rfl⟩ := hcs
      exact ⟨0, 0, fun _ => ByteArray.empty, fun h => absurd h (by omega), by omega, fun i hi => absurd hi (by omega)⟩
    · simp [Value.cells] at hcs
      obtain ⟨rfl, rfl, rfl⟩ := hcs
      simp only [if_true] at hz
      simp only [Prod.mk.injEq] at hx
      obtain ⟨rfl, _⟩ := hx
      have hs := sized_slice hsz (j := 0) (t := 36) rfl rfl Try.underlying36
      rw [show Try.checked.prog.bytesOf 9 = 16 from bytes9] at hs
      unfold reachBytes at hs
      unfold strs at hs
      simp only [List.length_map, List.length_take, List.length_drop] at hs
      obtain ⟨b, o, sp⟩ := a
      have hsp : 0 < len → sp = none := fun h0 => by simpa [Addr.add] using World.cell?_spot (hcell 0 (by omega))
      refine ⟨b, o, fun i => zs.getD i ByteArray.empty, fun h0 => by rw [hsp h0], by omega, fun i hi => ?_⟩
      obtain rfl := hsp (by omega)
      rw [← add_at]
      exact hcell i (by omega)
  obtain ⟨db, dz, dd, hda, hdn, hd⟩ : ∃ (db dz : Nat) (dd : Nat → Int), (0 < len1 → a1 = some ⟨db, dz, none⟩) ∧ len1 ≤ 4611686018427387904 ∧ ∀ i, i < len1 → W.cell? ⟨db, dz + i, none⟩ = some (.int .i64 (dd i)) := by
    rcases open_ints Try.underlying22 Try.underlying3 cells3 hf1 with ⟨hcs, hx⟩ | ⟨a, len', cap', zs, hcs, _, hl, hmx, hz, hx, hcell, _⟩
    · simp [Value.cells] at hcs
      obtain ⟨rfl, rfl, rfl⟩ := hcs
      exact ⟨0, 0, fun _ => 0, fun h => absurd h (by omega), by omega, fun i hi => absurd hi (by omega)⟩
    · simp [Value.cells] at hcs
      obtain ⟨rfl, rfl, rfl⟩ := hcs
      simp only [if_true] at hz
      simp only [Prod.mk.injEq] at hx
      obtain ⟨rfl, _⟩ := hx
      have hs := sized_slice hsz (j := 1) (t := 22) rfl rfl Try.underlying22
      rw [show Try.checked.prog.bytesOf 3 = 8 from bytes3] at hs
      unfold reachBytes at hs
      unfold lits at hs
      simp only [List.length_map, List.length_take, List.length_drop] at hs
      obtain ⟨b, o, sp⟩ := a
      have hsp : 0 < len1 → sp = none := fun h0 => by simpa [Addr.add] using World.cell?_spot (hcell 0 (by omega))
      refine ⟨b, o, fun i => zs.getD i 0, fun h0 => by rw [hsp h0], by omega, fun i hi => ?_⟩
      obtain rfl := hsp (by omega)
      rw [← add_at]
      exact hcell i (by omega)
  refine (texts_any a0 tb tz len cap ss a1 db dz len1 cap1 dd W hsa hda hn hdn hs hd).mono fun e W' ⟨he, hg⟩ => ⟨_, he, ?_⟩
  exact law_post (tb := 4) (by kernel_rfl) Try.underlying4 laidOut hps rfl hW' rfl (hg.below (fun _ h => h.elim) (Nat.le_refl _))

theorem heapTexts_holds : Rows.HeapTextsSaid :=
  OpenClaim.holds_of_wide 4 Try.f4 rfl rfl rfl rfl rfl rfl rfl ⟨rfl, rfl, rfl, rfl, rfl⟩ rfl rfl rfl rfl rfl (by kernel_rfl) Try.func4 (by kernel_rfl)
    (of_decide_eq_true (by kernel_rfl)) (by unfold Func.isWrapper; first | (rw [if_pos (by decide +kernel)]; kernel_rfl) | (rw [if_neg (by decide +kernel)]; exact ⟨rfl, rfl⟩))
    (fun os started H enc _ => lifted os started H enc)
#print axioms heapTexts_holds
end Go.Proofs.Ytikimfdijkejpaa.texts
