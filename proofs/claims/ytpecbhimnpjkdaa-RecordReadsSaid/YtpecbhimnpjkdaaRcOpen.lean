/- What a law was handed: a config. -/
import Derived.Test.YtpecbhimnpjkdaaRcKit
namespace Go.Proofs.Ytpecbhimnpjkdaa
open Go.ChangeShapes Go.WideShapes Go.ChangeAt Go.RowKit Go.Sb

theorem three {α : Type} (l : List α) (h : l.length = 3) : ∃ a b c, l = [a, b, c] := by
  match l, h with
  | [a, b, c], _ => exact ⟨a, b, c, rfl⟩

theorem open_config {H : Type} {enc : TypeId × Value → H} {W : World} {base : Nat} {v0 : Value} {d0 : DataW H} {p0 : List MemPlace} (hval : Value.okWide Try.prog W .any base 39 v0)
    (h0 : DataW.Trod enc Try.prog W 0 (fun _ => true) true 39 v0 d0 p0) : ∃ a b c, v0 = .agg #[.int .i64 a, .int .i64 b, .int .i64 c] := by
  obtain ⟨cs, rfl, hsz⟩ := okWide_struct Try.underlying39 hval
  obtain ⟨fuel, hf⟩ := h0
  obtain ⟨xs, n, _, hx, hl, hxl, hfs⟩ := DataW.trod_struct Try.underlying39 hf
  have hc : Try.prog.cellsOf 39 = 3 := by kernel_rfl
  rw [hc] at hsz
  obtain ⟨c0, c1, c2, hcs⟩ := three cs.toList (by simpa using hsz)
  obtain ⟨y0, y1, y2, hxs⟩ := three xs hxl
  have cl3 : Try.prog.cellsOf 3 = 1 := by kernel_rfl
  have g0 := hfs 0 _ rfl
  have g1 := hfs 1 _ rfl
  have g2 := hfs 2 _ rfl
  rw [hxs] at g0 g1 g2
  simp only [Value.cells, hcs] at g0 g1 g2
  obtain ⟨n0, e0, _, w0⟩ := DataW.trod_int Try.underlying3 g0
  obtain ⟨n1, e1, _, w1⟩ := DataW.trod_int Try.underlying3 g1
  obtain ⟨n2, e2, _, w2⟩ := DataW.trod_int Try.underlying3 g2
  simp [cl3] at e0 e1 e2
  refine ⟨n0, n1, n2, ?_⟩
  congr 1
  apply Array.ext'
  rw [hcs, e0, e1, e2]

theorem nineteen {α : Type} (l : List α) (h : l.length = 19) : ∃ a0 a1 a2 a3 a4 a5 a6 a7 a8 a9 a10 a11 a12 a13 a14 a15 a16 a17 a18, l = [a0, a1, a2, a3, a4, a5, a6, a7, a8, a9, a10, a11, a12, a13, a14, a15, a16, a17, a18] := by
  match l, h with
  | [a0, a1, a2, a3, a4, a5, a6, a7, a8, a9, a10, a11, a12, a13, a14, a15, a16, a17, a18], _ => exact ⟨a0, a1, a2, a3, a4, a5, a6, a7, a8, a9, a10, a11, a12, a13, a14, a15, a16, a17, a18, rfl⟩

theorem five {α : Type} (l : List α) (h : l.length = 5) : ∃ a0 a1 a2 a3 a4, l = [a0, a1, a2, a3, a4] := by
  match l, h with
  | [a0, a1, a2, a3, a4], _ => exact ⟨a0, a1, a2, a3, a4, rfl⟩

theorem eleven {α : Type} (l : List α) (h : l.length = 11) : ∃ a0 a1 a2 a3 a4 a5 a6 a7 a8 a9 a10, l = [a0, a1, a2, a3, a4, a5, a6, a7, a8, a9, a10] := by
  match l, h with
  | [a0, a1, a2, a3, a4, a5, a6, a7, a8, a9, a10], _ => exact ⟨a0, a1, a2, a3, a4, a5, a6, a7, a8, a9, a10, rfl⟩

theorem open_record {H : Type} {enc : TypeId × Value → H} {W : World} {base : Nat} {ts : List TypeId} {ds : List (DataW H)} {v0 : Value} {d0 : DataW H} {p0 : List MemPlace} (hsz : (DataW.weightsEach Try.prog ts ds).all (· ≤ reachBytes) = true) {j : Nat}
    (htj : ts[j]? = some 29) (hdj : ds[j]? = some d0) (hval : Value.okWide Try.prog W .any base 29 v0) (h0 : DataW.Trod enc Try.prog W 0 (fun _ => true) true 29 v0 d0 p0) :
    ∃ k ns tube v xs, v0 = recV k ns tube v ∧ ns.length = 16 ∧ RB W v xs ∧ xs.length ≤ 140737488351232 := by
  obtain ⟨cs, rfl, hsz0⟩ := okWide_struct Try.underlying29 hval
  obtain ⟨fuel, hf⟩ := h0
  obtain ⟨ys, n, _, hx, hl, hxl, hfs⟩ := DataW.trod_struct Try.underlying29 hf
  have hc : Try.prog.cellsOf 29 = 19 := by kernel_rfl
  rw [hc] at hsz0
  obtain ⟨c0, c1, c2, c3, c4, c5, c6, c7, c8, c9, c10, c11, c12, c13, c14, c15, c16, c17, c18, hcs⟩ := nineteen cs.toList (by simpa using hsz0)
  obtain ⟨y0, y1, y2, y3, y4, hxs⟩ := five ys hxl
  have cl3 : Try.prog.cellsOf 3 = 1 := by kernel_rfl
  have cl9 : Try.prog.cellsOf 9 = 1 := by kernel_rfl
  have cl22 : Try.prog.cellsOf 22 = 1 := by kernel_rfl
  have cl25 : Try.prog.cellsOf 25 = 5 := by kernel_rfl
  have cl27 : Try.prog.cellsOf 27 = 15 := by kernel_rfl
  have g0 := hfs 0 _ rfl
  have g1 := hfs 1 _ rfl
  have g2 := hfs 2 _ rfl
  have g3 := hfs 3 _ rfl
  have g4 := hfs 4 _ rfl
  rw [hxs] at g0 g1 g2 g3 g4
  simp only [Value.cells, hcs] at g0 g1 g2 g3 g4
  obtain ⟨m0, e0, _, _⟩ := DataW.trod_int Try.underlying3 g0
  obtain ⟨m1, e1, _, _⟩ := DataW.trod_int Try.underlying3 g1
  obtain ⟨m2, e2, _, _⟩ := DataW.trod_int Try.underlying3 g2
  obtain ⟨m3, e3, _, _⟩ := DataW.trod_int Try.underlying3 g3
  obtain ⟨zs, n2, _, hx2, hl2, hxl2, hfs2⟩ := DataW.trod_struct Try.underlying27 g4
  obtain ⟨z0, z1, z2, z3, z4, z5, z6, z7, z8, z9, z10, hzs⟩ := eleven zs hxl2
  have k0 := hfs2 0 _ rfl
  have k1 := hfs2 1 _ rfl
  have k2 := hfs2 2 _ rfl
  have k3 := hfs2 3 _ rfl
  have k4 := hfs2 4 _ rfl
  have k5 := hfs2 5 _ rfl
  have k6 := hfs2 6 _ rfl
  have k7 := hfs2 7 _ rfl
  have k8 := hfs2 8 _ rfl
  have k9 := hfs2 9 _ rfl
  have k10 := hfs2 10 _ rfl
  rw [hzs] at k0 k1 k2 k3 k4 k5 k6 k7 k8 k9 k10
  obtain ⟨n0, f0, _, _⟩ := DataW.trod_int Try.underlying3 k0
  obtain ⟨n1, f1, _, _⟩ := DataW.trod_int Try.underlying3 k1
  obtain ⟨n2', f2, _, _⟩ := DataW.trod_int Try.underlying3 k2
  obtain ⟨n3', f3, _, _⟩ := DataW.trod_int Try.underlying3 k3
  obtain ⟨n4, f4, _, _⟩ := DataW.trod_int Try.underlying3 k4
  obtain ⟨n5, f5, _, _⟩ := DataW.trod_int Try.underlying3 k5
  obtain ⟨n6, f6, _, _⟩ := DataW.trod_int Try.underlying3 k6
  obtain ⟨n7, f7, _, _⟩ := DataW.trod_int Try.underlying3 k7
  obtain ⟨us, n3, _, hx3, hl3, hxl3, hfs3⟩ := DataW.trod_struct Try.underlying25 k8
  obtain ⟨u0, u1, u2, u3, u4, hus⟩ := five us hxl3
  have q0 := hfs3 0 _ rfl
  have q1 := hfs3 1 _ rfl
  have q2 := hfs3 2 _ rfl
  have q3 := hfs3 3 _ rfl
  have q4 := hfs3 4 _ rfl
  rw [hus] at q0 q1 q2 q3 q4
  obtain ⟨r0, s0, _, _⟩ := DataW.trod_int Try.underlying3 q0
  obtain ⟨r1, s1, _, _⟩ := DataW.trod_int Try.underlying3 q1
  obtain ⟨r2, s2, _, _⟩ := DataW.trod_int Try.underlying3 q2
  obtain ⟨r3, s3, _, _⟩ := DataW.trod_int Try.underlying3 q3
  obtain ⟨r4, s4, _, _⟩ := DataW.trod_int Try.underlying3 q4
  obtain ⟨tb, t9, _⟩ := DataW.trod_string Try.underlying9 k9
  obtain ⟨v, xs, t10, hv, hx10⟩ := cells_bytes Try.underlying22 Try.underlying5 cells5 k10
  simp [cl3, cl9, cl22, cl25, cl27] at e0 e1 e2 e3 f0 f1 f2 f3 f4 f5 f6 f7 s0 s1 s2 s3 s4 t9 t10
  refine ⟨m0, [n0, n1, n2', n3', n4, n5, n6, n7, r0, r1, r2, r3, r4, m1, m2, m3], tb, v, xs, ?_, rfl, hv, ?_⟩
  · unfold recV recC
    congr 1
    apply Array.ext'
    rw [hcs, e0, e1, e2, e3, f0, f1, f2, f3, f4, f5, f6, f7, s0, s1, s2, s3, s4, t9, t10]
    rfl
  · rcases hx10 with rfl | ⟨elems, spare, he, hlen⟩
    · simp
    · have hw : (elems.length + spare.length) * Try.prog.bytesOf 5 ∈ DataW.weightsEach Try.prog ts ds := by
        refine DataW.weights_mem_each htj hdj _ ?_
        have hd0 : d0 = .agg (ys.map (·.1)) := congrArg Prod.fst hx
        rw [hd0, DataW.weights.eq_def, Try.underlying29]
        refine DataW.weights_mem_each (j := 4) (t := 27) (d := y4.1) rfl (by rw [hxs]; rfl) _ ?_
        have hy4 : y4.1 = .agg (zs.map (·.1)) := congrArg Prod.fst hx2
        rw [hy4, DataW.weights.eq_def, Try.underlying27]
        refine DataW.weights_mem_each (j := 10) (t := 22) (d := z10.1) rfl (by rw [hzs]; rfl) _ ?_
        rw [he, DataW.weights.eq_def, Try.underlying22]
        exact List.mem_cons_self
      have := List.all_eq_true.1 hsz _ hw
      simp only [decide_eq_true_eq, bytes5] at this
      unfold reachBytes at this
      omega

end Go.Proofs.Ytpecbhimnpjkdaa
