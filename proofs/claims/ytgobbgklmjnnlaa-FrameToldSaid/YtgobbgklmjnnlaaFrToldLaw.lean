/- FrameTold answers true, whatever it is handed, and leaves that as it was; no condition. -/
import Derived.Test.YtgobbgklmjnnlaaFrTold
import Derived.Test.YtgobbgklmjnnlaaFrKit
import Derived.Test.YtgobbgklmjnnlaaOpenCells
namespace Go.Proofs.Ytgobbgklmjnnlaa.told
open Go.ChangeShapes Go.WideShapes Go.ChangeAt Go.RowKit Go.Sb

theorem u32_bounds {z : Int} (h : (Lit.int .u32 z).wf = true) : 0 ≤ z ∧ z < 4294967296 := by
  have : 0 ≤ z ∧ z ≤ 4294967295 := by simpa [Lit.wf, IntKind.min, IntKind.max, IntKind.signed, IntKind.bits] using h
  omega

theorem six {α : Type} (l : List α) (h : l.length = 6) : ∃ a b c d e f, l = [a, b, c, d, e, f] := by
  match l, h with
  | [a, b, c, d, e, f], _ => exact ⟨a, b, c, d, e, f, rfl⟩

theorem open_turned {H : Type} {enc : TypeId × Value → H} {W : World} {base : Nat} {v0 : Value} {d0 : DataW H} {p0 : List MemPlace} (hval : Value.okWide Try.prog W .any base 41 v0)
    (h0 : DataW.Trod enc Try.prog W 0 (fun _ => true) true 41 v0 d0 p0) :
    ∃ n0 n1 v2 n3 n4 n5 x2, v0 = .agg #[.int .i64 n0, .int .i64 n1, v2, .bool n3, .int .i64 n4, .int .u32 n5] ∧ RB W v2 x2 ∧ n4 ≤ 9223372036854775807 ∧ 0 ≤ n5 ∧ n5 < 4294967296 := by
  obtain ⟨cs, rfl, hsz⟩ := okWide_struct Try.underlying41 hval
  obtain ⟨fuel, hf⟩ := h0
  obtain ⟨xs, n, _, hx, hl, hxl, hfs⟩ := DataW.trod_struct Try.underlying41 hf
  have hc : Try.prog.cellsOf 41 = 6 := by kernel_rfl
  rw [hc] at hsz
  obtain ⟨c0, c1, c2, c3, c4, c5, hcs⟩ := six cs.toList (by simpa using hsz)
  obtain ⟨y0, y1, y2, y3, y4, y5, hxs⟩ := six xs hxl
  have cl3 : Try.prog.cellsOf 3 = 1 := by kernel_rfl
  have cl4 : Try.prog.cellsOf 4 = 1 := by kernel_rfl
  have cl22 : Try.prog.cellsOf 22 = 1 := by kernel_rfl
  have cl39 : Try.prog.cellsOf 39 = 1 := by kernel_rfl
  have g0 := hfs 0 _ rfl
  have g1 := hfs 1 _ rfl
  have g2 := hfs 2 _ rfl
  have g3 := hfs 3 _ rfl
  have g4 := hfs 4 _ rfl
  have g5 := hfs 5 _ rfl
  rw [hxs] at g0 g1 g2 g3 g4 g5
  simp only [Value.cells, hcs] at g0 g1 g2 g3 g4 g5
  obtain ⟨n0, e0, _, w0⟩ := DataW.trod_int Try.underlying3 g0
  obtain ⟨n1, e1, _, w1⟩ := DataW.trod_int Try.underlying3 g1
  obtain ⟨v2, x2, e2, h2, _⟩ := cells_bytes Try.underlying22 Try.underlying5 cells5 g2
  obtain ⟨n3, e3, _⟩ := DataW.trod_bool Try.underlying4 g3
  obtain ⟨n4, e4, _, w4⟩ := DataW.trod_int Try.underlying3 g4
  obtain ⟨n5, e5, _, w5⟩ := DataW.trod_int Try.underlying39 g5
  simp [cl3, cl4, cl22, cl39] at e0 e1 e2 e3 e4 e5
  refine ⟨n0, n1, v2, n3, n4, n5, x2, ?_, h2, (int_bounds w4).2, (u32_bounds w5).1, (u32_bounds w5).2⟩
  congr 1
  apply Array.ext'
  rw [hcs, e0, e1, e2, e3, e4, e5]

set_option maxRecDepth 100000 in
theorem lifted (os : Os) (started : os.Started) (H : Type) (enc : TypeId × Value → H) :
    ReturnsInHanded {} Try.checked os 7 .any (Rows.frameToldSpec.pre6 enc Try.prog Try.f7 Rows.frameToldRow.domain false) (Rows.frameToldSpec.post enc Try.prog Try.f7 false true false false) := by
  refine returnsInHanded_of_change (C := Try.checked) own started (by kernel_rfl) Try.func7
    (ChangeSpec.witness6 (enc := enc) (C := Try.checked) false ⟨#[], #[.agg #[.int .i64 0, .int .i64 0, .slice none 0 0, .bool false, .int .i64 0, .int .u32 0]], []⟩ 8 (by kernel_rfl) (by kernel_rfl) (by kernel_rfl) (by kernel_rfl)) ?_
  intro W base args ds gs before hval0 hW _ _
  have hval : ∀ (j : Nat) t v, Try.f7.params[j]? = some t → args[j]? = some v → Value.okWide Try.prog W .any base t v := hval0
  have hW' := hW
  obtain ⟨p, q, hA0, hV, rfl, _, _⟩ := hW
  have hA : DataW.TrodAll enc Try.prog W 0 (fun _ => true) true Try.f7.params.toList args.toList ds p := hA0
  rw [Try.params7] at hA hval
  obtain ⟨v0, vs0, d0, ds0, p0, q0, hargs, rfl, rfl, h0, r0⟩ := trodAll_cons hA
  obtain ⟨rfl, rfl, rfl⟩ := trodAll_nil r0
  obtain rfl : args = #[v0] := by cases args; simp_all
  obtain ⟨rfl, rfl⟩ := trodVars_none hV
  obtain ⟨n0, n1, v2, n3, n4, n5, x2, hv, h2, b4, b5, b6⟩ := open_turned (hval 0 41 v0 rfl rfl) h0
  have hps : ∀ t ∈ Try.f7.params.toList, Try.prog.readableRec t = true ∧ t < Try.prog.types.size := by
    rw [Try.params7]
    intro t ht
    simp only [List.mem_cons, List.not_mem_nil, or_false] at ht
    subst ht
    exact ⟨by kernel_rfl, of_decide_eq_true (by kernel_rfl)⟩
  have hc := told_any n0 n1 n4 n5 n3 v2 x2 W h2 b4 b5 b6
  rw [← hv] at hc
  refine hc.mono fun e W' ⟨he, hg⟩ => ⟨_, he, ?_⟩
  exact law_post (tb := 4) (by kernel_rfl) Try.underlying4 laidOut hps rfl hW' rfl (hg.below (fun _ h => h.elim) (Nat.le_refl _))

theorem frameTold_holds : Rows.FrameToldSaid :=
  OpenClaim.holds_of_wide 7 Try.f7 rfl rfl rfl rfl rfl rfl rfl ⟨rfl, rfl, rfl, rfl, rfl⟩ rfl rfl rfl rfl rfl (by kernel_rfl) Try.func7 (by kernel_rfl)
    (of_decide_eq_true (by kernel_rfl)) (by unfold Func.isWrapper; first | (rw [if_pos (by decide +kernel)]; kernel_rfl) | (rw [if_neg (by decide +kernel)]; exact ⟨rfl, rfl⟩))
    (fun os started H enc _ => lifted os started H enc)
#print axioms frameTold_holds
end Go.Proofs.Ytgobbgklmjnnlaa.told
