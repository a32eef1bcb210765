/- What a law was handed: a config. -/
import Derived.Test.YtpecbhimnpjkdaaRcKit
namespace Go.Proofs.Ytpecbhimnpjkdaa
open Go.ChangeShapes Go.WideShapes Go.ChangeAt Go.RowKit Go.Sb

theorem three {α : Type} (l : List α) (h : l.length = 3) : ∃ a b c, l = [a, b, c] := by
  match l, h with
  | [a, b, c], _ => exact ⟨a, b, c, rfl⟩

theorem open_config {H : Type} {enc : TypeId × Value → H} {W : World} {base : Nat} {v0 : Value} {d0 : DataW H} {p0 : List MemPlace} (hval : Value.okWide Try.prog W .any base 39 v0)
    (h0 : DataW.Trod enc Try.prog W 0 (fun _ => true) true 39 v0 d0 p0) : ∃ a b c, v0 = .agg #[.int .i64 a, .int .i64 b, .int .i64 c] := by
  obtain ⟨cs, rfl, hsz⟩ := okWide_struct Try.underlying39 hval
  obtain ⟨fuel, hf⟩ := h0
  obtain ⟨xs, n, _, hx, hl, hxl, hfs⟩ := DataW.trod_struct Try.underlying39 hf
  have hc : Try.prog.cellsOf 39 = 3 := by kernel_rfl
  rw [hc] at hsz
  obtain ⟨c0, c1, c2, hcs⟩ := three cs.toList (by simpa using hsz)
  obtain ⟨y0, y1, y2, hxs⟩ := three xs hxl
  have cl3 : Try.prog.cellsOf 3 = 1 := by kernel_rfl
  have g0 := hfs 0 _ rfl
  have g1 := hfs 1 _ rfl
  have g2 := hfs 2 _ rfl
  rw [hxs] at g0 g1 g2
  simp only [Value.cells, hcs] at g0 g1 g2
  obtain ⟨n0, e0, _, w0⟩ := DataW.trod_int Try.underlying3 g0
  obtain ⟨n1, e1, _, w1⟩ := DataW.trod_int Try.underlying3 g1
  obtain ⟨n2, e2, _, w2⟩ := DataW.trod_int Try.underlying3 g2
  simp [cl3] at e0 e1 e2
  refine ⟨n0, n1, n2, ?_⟩
  congr 1
  apply Array.ext'
  rw [hcs, e0, e1, e2]

end Go.Proofs.Ytpecbhimnpjkdaa
