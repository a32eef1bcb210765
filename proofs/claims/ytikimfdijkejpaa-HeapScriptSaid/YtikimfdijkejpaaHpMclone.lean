/- maps.Clone of a map with whole-number keys. -/
import Derived.Test.YtikimfdijkejpaaRows
import Derived.Test.YtikimfdijkejpaaHRep
import Derived.Shelf.SlMaps.Clone
namespace Go.Proofs.Ytikimfdijkejpaa
open Go.RowKit Go.Sb

theorem func67' : Try.prog.funcs[67]? = some Try.f67 := by kernel_rfl

set_option maxRecDepth 100000 in
set_option maxHeartbeats 2000000 in
theorem mclone_any (b : Nat) (m : List (Int × Value)) (w : World) (h : HasMap w b m) :
    Calls Try.prog 44 #[.map (some b)] w fun e w' => ∃ b', e = .returned (.map (some b')) ∧ HasMap w' b' m ∧ Fr (fun _ => False) w w' ∧ w.heap.size ≤ b' := by
  obtain ⟨o, hb, es, clock, rfl, hm⟩ := h
  have hq := fun w => run_eql_map_nil_sl (P := Try.prog) w 82 _ _ (some b) Try.underlying82
  go_enter Try.func44, Try.ntmps44
  go_wp2_with (fail)
  rw [run_callFunc_extern func67' (by kernel_rfl) (by kernel_rfl) (by kernel_rfl) (e := Extern.MapsClone.clone) (by kernel_rfl), run_maps_clone_sl w 82 hb]
  simp only [Result.andThen]
  rw [Oper.upon_value]
  go_wp2_with (fail)
  rw [run_typeAssert_map_sl _ 82 20 _ _ _ Try.underlying82]
  simp only [Result.andThen]
  rw [Oper.upon_value]
  go_wp2_with (fail)
  go_ret
  exact ⟨_, rfl, ⟨_, heap_alloc_eq _ _, es, clock, rfl, hm⟩, (Fr.refl _ _).alloc _, Nat.le_refl _⟩

end Go.Proofs.Ytikimfdijkejpaa
