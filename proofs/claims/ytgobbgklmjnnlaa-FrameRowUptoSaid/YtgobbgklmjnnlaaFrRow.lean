/- THE WALK of FrameRow. -/
import Derived.Test.YtgobbgklmjnnlaaFrRow0
import Derived.Test.YtgobbgklmjnnlaaFrBack
import Derived.Test.YtgobbgklmjnnlaaFrShown
import Derived.BigQuiet
import Derived.Deep.RegionHeld3
namespace Go.Proofs.Ytgobbgklmjnnlaa
open Go.RowKit Go.Sb
attribute [local go_sem] Oper.semAt_some

theorem Try.info3 : (Try.prog.info? 3).map (fun i => (i.zero, i.size, i.bytes)) = some (some (.int .i64 0), 1, 8) := by kernel_rfl

theorem cell_fr {F : Nat → Prop} {a b : World} (h : Fr F a b) {p : Addr} {u : Value} (hc : a.cell? p = some u) (hn : ¬ F p.block) : b.cell? p = some u := by
  rw [World.cell?_of_block (w := a) (h.block _ (World.block_lt_of_cell? a _ hc) hn)]
  exact hc

/-- two numbers just laid -/
theorem src_two (w : World) (a b : Int) : Src (w.alloc (.cells #[.int .i64 a, .int .i64 b] 3)) (.slice (some ⟨w.heap.size, 0, none⟩) 2 2) 2 1 [.int .i64 a, .int .i64 b] := by
  refine ⟨rfl, ?_, .inr ⟨_, _, rfl, ?_⟩⟩
  · intro u hu
    simp only [List.mem_cons, List.not_mem_nil, or_false] at hu
    rcases hu with rfl | rfl <;> rfl
  · intro j u hj
    have ha : (⟨w.heap.size, 0, none⟩ : Addr).add j = ⟨w.heap.size, j, none⟩ := by unfold Addr.add; split <;> simp_all
    rw [ha, cell_of (heap_alloc_eq w (.cells #[.int .i64 a, .int .i64 b] 3))]
    simpa using hj

/-- What FrameRow keeps: the frames so far, where they stand, and the cells of its variables. -/
structure RwSt (w0 : World) (file : Int) (b4 b6 b8 : Nat) (pv : Value) (ps : List (List UInt8)) (M : List Mk) (g c : Nat) (plv : Value) (w : World) : Prop where
  ok : RowOk file 0 M
  al : OB 5 (fun k => w0.heap.size ≤ k) w (.slice (some ⟨g, 0, none⟩) (catM file.toNat M).length c) (catM file.toNat M)
  pl : Sb.Own 3 1 (fun k => w0.heap.size ≤ k) w plv (2 * M.length) (plsM M)
  c4 : w.heap[b4]? = some (.cells #[pv] 27 (0, 0))
  c6 : w.heap[b6]? = some (.cells #[.bool false] 4 (0, 0))
  c8 : w.heap[b8]? = some (.cells #[plv] 51 (0, 0))
  g8 : w0.heap.size ≤ b8
  fr : Fr (fun _ => False) w0 w
  link : ∀ m ∈ M, ps[m.i]? = some m.xs

theorem RwSt.kept {w0 : World} {file : Int} {b4 b6 b8 : Nat} {pv : Value} {ps : List (List UInt8)} {M : List Mk} {g c : Nat} {plv : Value} {w w' : World} (h : RwSt w0 file b4 b6 b8 pv ps M g c plv w) (hf : Fr (fun _ => False) w w') : RwSt w0 file b4 b6 b8 pv ps M g c plv w' :=
  ⟨h.ok, Own.fr h.al hf (fun _ _ _ h => h), h.pl.fr hf (fun _ _ _ h => h), hf.get h.c4 id, hf.get h.c6 id, hf.get h.c8 id, h.g8, h.fr.trans hf (fun _ _ h => h), h.link⟩

theorem own_other {R R' : TypeId} {F G : Nat → Prop} {w : World} {v u : Value} {n m : Nat} {xs ys : List Value} (hne : R ≠ R') (h : Sb.Own R 1 F w v n xs) (hu : Sb.Own R' 1 G w u m ys) : ∀ k, v.ownBlock = some k → u.ownBlock ≠ some k := by
  intro k hk hk'
  rcases h.2 with ⟨rfl, _⟩ | ⟨g, cap, cur, rfl, _, hg, _⟩
  · cases hk
  · rcases hu.2 with ⟨rfl, _⟩ | ⟨g', cap', cur', rfl, _, hg', _⟩
    · cases hk'
    · simp only [Value.ownBlock, Option.some.injEq] at hk hk'
      subst hk hk'
      exact ne_of_types hg hg' hne rfl

/-- One frame more. -/
theorem RwSt.push {w0 : World} {file : Int} {b4 b6 b8 : Nat} {pv : Value} {ps : List (List UInt8)} {M : List Mk} {g c g5 c5 : Nat} {plv plv3 : Value} {w2 w3 w5 : World} (h : RwSt w0 file b4 b6 b8 pv ps M g c plv w2) (m : Mk) (hok : RowOk file 0 (M ++ [m])) (hlk : ps[m.i]? = some m.xs) {o : Obj}
    (hp3 : Sb.Own 3 1 (ex (fun k => w0.heap.size ≤ k) (w2.alloc o)) w3 plv3 (2 * M.length + 2) (plsM M ++ [.int .i64 (m.i : Int), .int .i64 (m.p : Int)])) (hf3 : Fr (fun k => plv.ownBlock = some k) (w2.alloc o) w3)
    (ha5 : Sb.Own 5 1 (ex (fun k => w0.heap.size ≤ k) (w3.setCell ⟨b8, 0, none⟩ plv3)) w5 (.slice (some ⟨g5, 0, none⟩) ((catM file.toNat M).length + (frameOf file.toNat m.p m.xs).length) c5) ((catM file.toNat M).length + (frameOf file.toNat m.p m.xs).length) ((catM file.toNat M).map byte ++ (frameOf file.toNat m.p m.xs).map byte))
    (hf5 : Fr (fun k => k = g) (w3.setCell ⟨b8, 0, none⟩ plv3) w5) : RwSt w0 file b4 b6 b8 pv ps (M ++ [m]) g5 c5 plv3 w5 := by
  have hs0 := h.fr.size
  have f23 : Fr (fun k => plv.ownBlock = some k) w2 w3 := ((Fr.refl _ w2).alloc o).trans hf3 (fun _ _ h => h)
  have hpl : ∀ k cs T, w2.heap[k]? = some (.cells cs T (0, 0)) → T ≠ 3 → ¬ plv.ownBlock = some k := fun k cs T hk hT hb => own_ne hk hT h.pl hb
  have e4 := f23.get h.c4 (hpl _ _ _ h.c4 (by decide))
  have e6 := f23.get h.c6 (hpl _ _ _ h.c6 (by decide))
  have e8 := f23.get h.c8 (hpl _ _ _ h.c8 (by decide))
  have f34 : Fr (fun k => k = b8) w3 (w3.setCell ⟨b8, 0, none⟩ plv3) := (Fr.refl (fun k => k = b8) _).setCell (p := ⟨b8, 0, none⟩) (.inl rfl) _
  have d4 := f34.get e4 (fun e => ne_of_types e4 e8 (by decide) e)
  have d6 := f34.get e6 (fun e => ne_of_types e6 e8 (by decide) e)
  have d8 : (w3.setCell ⟨b8, 0, none⟩ plv3).heap[b8]? = some (.cells #[plv3] 51 (0, 0)) := by simpa using heap_setCell_eq 0 plv3 e8
  have hg : ∃ cs, (w3.setCell ⟨b8, 0, none⟩ plv3).heap[g]? = some (.cells cs 5 (0, 0)) := by
    rcases h.al.2 with ⟨hv, _⟩ | ⟨g', cap, cur, hv, _, hgg, _⟩
    · cases hv
    · cases hv
      have h3 := f23.get hgg (fun hb => own_other (R := 3) (R' := 5) (by decide) h.pl h.al _ hb rfl)
      exact ⟨cur, f34.get h3 (fun e => ne_of_types h3 e8 (by decide) e)⟩
  obtain ⟨cg, hcg⟩ := hg
  have hp4 : Sb.Own 3 1 (fun k => w0.heap.size ≤ k) (w3.setCell ⟨b8, 0, none⟩ plv3) plv3 (2 * M.length + 2) (plsM M ++ [.int .i64 (m.i : Int), .int .i64 (m.p : Int)]) :=
    ((hp3.mono (fun k _ hk => hk.elim id (fun hk => by simp at hk; omega))).of (fun k hk hb => heap_setCell_ne _ _ _ _ (fun e => own_ne (R := 3) e8 (by decide) hp3 (by rw [hb, e]))))
  have hpg : plv3.ownBlock ≠ some g := fun hb => own_ne hcg (by decide) hp4 hb
  have f25 : Fr (fun k => plv.ownBlock = some k ∨ k = b8 ∨ k = g) w2 w5 := ((f23.mono (fun _ _ h => .inl h)).trans f34 (fun _ _ h => .inr (.inl h))).trans hf5 (fun _ _ h => .inr (.inr h))
  refine ⟨hok, ?_, ?_, hf5.get d4 (fun e => ne_of_types d4 hcg (by decide) e), hf5.get d6 (fun e => ne_of_types d6 hcg (by decide) e), hf5.get d8 (fun e => ne_of_types d8 hcg (by decide) e), h.g8, h.fr.trans f25 (fun k hk hb => ?_), ?_⟩
  · have hs3 := f23.size
    have ha := ha5.mono (G := fun k => w0.heap.size ≤ k) (fun k _ hk => hk.elim id (fun hk => by simp at hk; omega))
    unfold OB
    rw [catM_snoc, List.length_append, List.map_append]
    exact ha
  · have hp5 := hp4.of (w' := w5) (fun k hk hb => hf5.block k hk (fun e => hpg (by rw [hb, e])))
    rw [plsM_snoc, List.length_append, Nat.mul_add]
    exact hp5
  · rcases hb with hb | rfl | rfl
    · have := (h.pl.block k hb).1
      omega
    · have := h.g8
      omega
    · have := (Own.block h.al k rfl).1
      omega
  · intro m' hm'
    rcases List.mem_append.1 hm' with hm' | hm'
    · exact h.link m' hm'
    · simp only [List.mem_singleton] at hm'
      subst hm'
      exact hlk

/-- Behind the loop: all bytes, those behind too. -/
structure RwE (w0 : World) (b4 b6 b8 b12 : Nat) (pv : Value) (M : List Mk) (L : Nat) (plv av : Value) (bs : List UInt8) (w : World) : Prop where
  al : OB 5 (fun k => w0.heap.size ≤ k) w av bs
  pl : Sb.Own 3 1 (fun k => w0.heap.size ≤ k) w plv (2 * M.length) (plsM M)
  c4 : w.heap[b4]? = some (.cells #[pv] 27 (0, 0))
  c6 : w.heap[b6]? = some (.cells #[.bool false] 4 (0, 0))
  c8 : w.heap[b8]? = some (.cells #[plv] 51 (0, 0))
  c12 : w.heap[b12]? = some (.cells #[.int .i64 (L : Int)] 3 (0, 0))
  fr : Fr (fun _ => False) w0 w

theorem RwE.kept {w0 : World} {b4 b6 b8 b12 : Nat} {pv : Value} {M : List Mk} {L : Nat} {plv av : Value} {bs : List UInt8} {w w' : World} (h : RwE w0 b4 b6 b8 b12 pv M L plv av bs w) (hf : Fr (fun _ => False) w w') : RwE w0 b4 b6 b8 b12 pv M L plv av bs w' :=
  ⟨Own.fr h.al hf (fun _ _ _ h => h), h.pl.fr hf (fun _ _ _ h => h), hf.get h.c4 id, hf.get h.c6 id, hf.get h.c8 id, hf.get h.c12 id, h.fr.trans hf (fun _ _ h => h)⟩

theorem RwSt.ended {w0 : World} {file : Int} {b4 b6 b8 b12 : Nat} {pv : Value} {ps : List (List UInt8)} {M : List Mk} {g c : Nat} {plv av : Value} {bs : List UInt8} {w w' : World} (h : RwSt w0 file b4 b6 b8 pv ps M g c plv w) (h12 : w.heap[b12]? = some (.cells #[.int .i64 ((catM file.toNat M).length : Int)] 3 (0, 0)))
    (hf : Fr (fun k => k = g) w w') (ha : OB 5 (fun k => w0.heap.size ≤ k) w' av bs) : RwE w0 b4 b6 b8 b12 pv M (catM file.toNat M).length plv av bs w' := by
  have hg : ∃ cs, w.heap[g]? = some (.cells cs 5 (0, 0)) := by
    rcases h.al.2 with ⟨hv, _⟩ | ⟨g', cap, cur, hv, _, hgg, _⟩
    · cases hv
    · cases hv
      exact ⟨cur, hgg⟩
  obtain ⟨cg, hcg⟩ := hg
  refine ⟨ha, h.pl.of (fun k hk hb => hf.block k hk (fun e => own_ne hcg (by decide) h.pl (by rw [hb, e]))), hf.get h.c4 (fun e => ne_of_types h.c4 hcg (by decide) e), hf.get h.c6 (fun e => ne_of_types h.c6 hcg (by decide) e), hf.get h.c8 (fun e => ne_of_types h.c8 hcg (by decide) e), hf.get h12 (fun e => ne_of_types h12 hcg (by decide) e), h.fr.trans hf (fun k hk e => ?_)⟩
  have := (Own.block h.al g rfl).1
  omega

theorem own_nn {E : TypeId} {size : Nat} {F : Nat → Prop} {w : World} {v : Value} {n : Nat} {xs : List Value} (h : Sb.Own E size F w v n xs) (hn : v ≠ .slice none 0 0) : ∃ g c, v = .slice (some ⟨g, 0, none⟩) n c := by
  rcases h.shape with ⟨h1, _⟩ | ⟨g, cap, h1, _⟩
  · exact absurd h1 hn
  · exact ⟨g, cap, h1⟩

theorem px_get {α β : Type} {f : α → β} {pre : List α} {x : α} {L : List β} (h : (pre ++ [x]).map f <+: L) : L[pre.length]? = some (f x) := by
  obtain ⟨r, rfl⟩ := h
  rw [List.map_append, List.append_assoc, List.getElem?_append_right (by simp)]
  simp

def RwRel (w0 : World) (file : Int) (b4 b6 b8 : Nat) (pv : Value) (ps : List (List UInt8)) (av i : Value) (wr : World) : Prop :=
  ∃ (k : Nat) (M : List Mk) (g c : Nat) (plv : Value), i = .int .i64 (k : Int) ∧ k ≤ ps.length ∧ av = .slice (some ⟨g, 0, none⟩) (catM file.toNat M).length c ∧ RwSt w0 file b4 b6 b8 pv ps M g c plv wr ∧ (catM file.toNat M).length ≤ tot (ps.take k) ∧ M.length ≤ k

set_option maxRecDepth 100000 in
set_option maxHeartbeats 4000000 in
theorem row_any (file : Int) (pa : Option Addr) (pb po pc : Nat) (ps : List (List UInt8)) (ba : Option Addr) (bc : Nat) (bh : List UInt8) (w : World) (hp : Pay w pa pb po ps) (hb : RB w (.slice ba bh.length bc) bh) (hbl : bh.length ≤ 140737488351232)
    (hpl : ps.length ≤ 9223372036854775807) (hf0 : -9223372036854775808 ≤ file) (hf1 : file ≤ 9223372036854775807) :
    Calls Try.prog 11 #[.int .i64 file, .slice pa ps.length pc, .slice ba bh.length bc] w fun e w' => e = .returned (.bool true) ∧ Fr (fun _ => False) w w' := by
  have HP := Lib.hid hp
  have HB := Lib.hid hb
  clear hp hb
  refine calls_of_marks Try.func11 rfl ?_
  simp only [Try.ntmps11, List.size_toArray, List.length_cons, List.length_nil, Nat.reduceAdd, Nat.reduceSub, Array.replicate_succ, Array.replicate_zero, List.push_toArray, List.append_toArray, List.nil_append, List.cons_append]
  have f1 : Fr (fun _ => False) w ((w.alloc (.cells #[.slice pa ps.length pc] 27)).alloc (.cells #[.bool false] 4)) := ((Fr.refl _ _).alloc _).alloc _
  have h4 : ((w.alloc (.cells #[.slice pa ps.length pc] 27)).alloc (.cells #[.bool false] 4)).heap[w.heap.size]? = some (.cells #[.slice pa ps.length pc] 27 (0, 0)) := (heap_alloc_lt _ _ _ (by simp)).trans (heap_alloc_eq _ _)
  have h6 := heap_alloc_eq (w.alloc (.cells #[.slice pa ps.length pc] 27)) (.cells #[.bool false] 4)
  rw [World.size_alloc] at h6
  have HF1 := Lib.hid f1
  have H4 := Lib.hid h4
  have H6 := Lib.hid h6
  clear f1 h4 h6
  go_wp2_with (fail)
  refine (beyond_any pa pb po pc ps _ ⟨HP.out.at0, fun k x hk => by obtain ⟨v, h1, h2⟩ := HP.out.each k x hk; exact ⟨v, cell_fr HF1.out h1 id, h2.fr HF1.out⟩⟩ hpl).mono ?_
  rintro e w1 ⟨rfl, rfl⟩
  by_cases hbey : 2147483647 < tot ps
  · rw [decide_eq_true hbey]
    go_wp2_with (fail)
    have hc5 : ((w.alloc (.cells #[.slice pa ps.length pc] 27)).alloc (.cells #[.bool true] 4)).cell? ⟨w.heap.size + 1, 0, none⟩ = some (.bool true) := by
      have := heap_alloc_eq (w.alloc (.cells #[.slice pa ps.length pc] 27)) (.cells #[.bool true] 4)
      rw [World.size_alloc] at this
      exact cell_is this 0 rfl
    refine ⟨.bool true, ?_, rfl, ((Fr.refl _ _).alloc _).alloc _⟩
    simp [results, Try.f11, go_sem, hc5]
  · rw [decide_eq_false hbey]
    go_wp2_with (fail)
    refine (shown_any _).mono ?_
    rintro e w1 ⟨rfl, hf1⟩
    have HF2 := Lib.hid (HF1.out.trans hf1 (fun _ _ h => h))
    have H42 := Lib.hid (hf1.get H4.out id)
    have H62 := Lib.hid (hf1.get H6.out id)
    clear hf1 H4 H6 HF1
    go_wp2_with (fail)
    have f3 : Fr (fun _ => False) w1 (((w1.alloc (.cells #[] 5)).alloc (.cells #[] 3)).alloc (.cells #[.slice (some ⟨w1.heap.size + 1, 0, none⟩) 0 0] 51)) := (((Fr.refl _ _).alloc _).alloc _).alloc _
    have hst : RwSt w file w.heap.size (w.heap.size + 1) (w1.heap.size + 1 + 1) (.slice pa ps.length pc) ps [] w1.heap.size 0 (.slice (some ⟨w1.heap.size + 1, 0, none⟩) 0 0) (((w1.alloc (.cells #[] 5)).alloc (.cells #[] 3)).alloc (.cells #[.slice (some ⟨w1.heap.size + 1, 0, none⟩) 0 0] 51)) := by
      have hs1 := HF2.out.size
      refine ⟨trivial, ?_, ?_, f3.get H42.out id, f3.get H62.out id, ?_, by omega, HF2.out.trans f3 (fun _ _ h => h), by simp⟩
      · exact Own.mono ((Sb.Own.alloc (Sb.Own.alloc (Own.empty 5 1 (fun k => w1.heap.size ≤ k) w1 (Nat.le_refl _)) _) _)) (fun k _ h => by omega)
      · have h := Sb.Own.alloc (Own.empty 3 1 (fun k => w1.heap.size + 1 ≤ k) (w1.alloc (.cells #[] 5)) (by simp)) (.cells #[.slice (some ⟨w1.heap.size + 1, 0, none⟩) 0 0] 51)
        simpa [plsM] using h.mono (G := fun k => w.heap.size ≤ k) (fun k _ h => by omega)
      · have := heap_alloc_eq ((w1.alloc (.cells #[] 5)).alloc (.cells #[] 3)) (.cells #[.slice (some ⟨w1.heap.size + 1, 0, none⟩) 0 0] 51)
        simpa using this
    have HST := Lib.hid hst
    clear hst f3
    generalize hb4 : w.heap.size = b4 at *
    generalize hg7 : w1.heap.size = g7 at *
    go_loopw [7, 9] (fun av i wr => RwRel w file b4 (b4 + 1) (g7 + 1 + 1) (.slice pa ps.length pc) ps av i wr) (fun _ i _ => ps.length - (intOf i).toNat)
    case atStart => exact ⟨0, [], g7, 0, _, rfl, Nat.zero_le _, rfl, HST.out, by simp [catM], by simp⟩
    case round =>
      obtain ⟨k, M, g, c, plv, rfl, hk, rfl, hst, hcat, hMk⟩ := hrel
      have HS := Lib.hid hst
      clear hst
      have c4 : wr.cell? ⟨b4, 0, none⟩ = some (.slice pa ps.length pc) := cell_is HS.out.c4 0 rfl
      have htk := tot_le ps k
      have hcl : (catM file.toNat M).length ≤ 2147483647 := by omega
      by_cases hlt : k < ps.length
      · have hx : ps[k]? = some (ps[k]'hlt) := List.getElem?_eq_getElem hlt
        obtain ⟨vx, hvx, hrb⟩ := HP.out.each k _ hx
        have hpa := HP.out.at0 (by omega)
        subst hpa
        have e0 := cell_fr HS.out.fr hvx id
        have hrw := hrb.fr HS.out.fr
        have HRB := Lib.hid hrw
        obtain ⟨va, vc, rfl, hjunk⟩ := hrb
        have HX := Lib.hid hx
        clear hjunk hx hvx hrw
        have HT := Lib.hid (tot_succ HX.out)
        generalize ps[k]'hlt = x at *
        have hxl := HRB.out.len
        unfold maxLen at hxl
        go_wp2_with (fail)
        refine (make_any file ((catM file.toNat M).length : Int) _ x wr HRB.out).mono ?_
        rintro e w2 ⟨v2, rfl, ho2, hf2⟩
        have e02 := cell_fr hf2 e0 id
        have HS2 := Lib.hid (HS.out.kept hf2)
        have HO2 := Lib.hid ho2
        have c42 : w2.cell? ⟨b4, 0, none⟩ = some (.slice (some ⟨pb, po, none⟩) ps.length pc) := cell_is HS2.out.c4 0 rfl
        clear ho2 hf2 e0 c4
        by_cases he : errM file ((catM file.toNat M).length : Int) x = 0
        · rw [he]
          obtain ⟨hpf, hpp, hx0, hx1⟩ := errM_zero he
          have ho3 := HO2.out
          unfold outM at ho3
          rw [if_pos he] at ho3
          have HO3 := Lib.hid ho3
          obtain ⟨a2, k2, rfl⟩ := ob_shape ho3
          have HPP := Lib.hid (And.intro hpf hpp)
          clear ho3 HO2 he hpf hpp
          have hfl : (frameOf file.toNat (catM file.toNat M).length x).length = 8 + x.length := frame_len _ _ _
          have hx2 := HO3.out.rb
          obtain ⟨pa2, pc2, rfl⟩ : ∃ ad c, plv = .slice ad (2 * M.length) c := by
            rcases HS2.out.pl.shape with ⟨h1, h2, _⟩ | ⟨g', cap, h1, _⟩
            · exact ⟨_, _, by rw [h1, h2]⟩
            · exact ⟨_, _, h1⟩
          have e8 : w2.cell? ⟨g7 + 1 + 1, 0, none⟩ = some (.slice pa2 (2 * M.length) pc2) := cell_is HS2.out.c8 0 rfl
          have h8l := lt_of_heap HS2.out.c8
          have hn8 : (Value.slice pa2 (2 * M.length) pc2).ownBlock ≠ some (g7 + 1 + 1) := own_ne HS2.out.c8 (by decide) HS2.out.pl
          have hrow : RowOk file 0 (M ++ [⟨k, (catM file.toNat M).length, x⟩]) := rowOk_snoc file ⟨k, _, x⟩ HPP.out.1 HPP.out.2 hx0 hx1 M 0 HS2.out.ok (by simp)
          have HROW := Lib.hid hrow
          have HX2 := Lib.hid hx2
          have HFL := Lib.hid hfl
          have hal2 : ∀ w3 w4 : World, Fr (fun j => (Value.slice pa2 (2 * M.length) pc2).ownBlock = some j) w2 w3 → Fr (fun j => j = g7 + 1 + 1) w3 w4 → w3.heap[g7 + 1 + 1]? = some (.cells #[.slice pa2 (2 * M.length) pc2] 51 (0, 0)) → OB 5 (fun j => w.heap.size ≤ j) w4 (.slice (some ⟨g, 0, none⟩) (catM file.toNat M).length c) (catM file.toNat M) ∧ RB w4 (.slice a2 (frameOf file.toNat (catM file.toNat M).length x).length k2) (frameOf file.toNat (catM file.toNat M).length x) := fun w3 w4 h23 h34 h8 => by
            have hb : ∀ {F : Nat → Prop} {v : Value} {zs : List UInt8}, OB 5 F w2 v zs → OB 5 F w4 v zs := fun h => by
              have h3 : OB 5 _ w3 _ _ := Own.of h (fun j _ hj => h23.block j (Own.block h j hj).2 (fun hb => own_other (R := 3) (R' := 5) (by decide) HS2.out.pl h j hb hj))
              exact Own.of h3 (fun j hjl hj => h34.block j hjl (fun e => own_ne (R := 5) h8 (by decide) h3 (by rw [hj, e])))
            exact ⟨hb HS2.out.al, (hb HO3.out).rb⟩
          have HAL2 := Lib.hid hal2
          have hMl : M.length ≤ 2147483647 := by have := tot_nine ps; omega
          clear hrow hx2 hfl hal2 hx0
          go_wp2_with (first
            | (at_builtin; refine wpList_append_Own _ rfl _ _ 51 rfl 3 (.int .i64 0) 1 8 Try.underlying51 Try.info3 rfl (by decide) (.slice pa2 (2 * M.length) pc2) _ _ rfl (HS2.out.pl.alloc _) (.slice (some ⟨w2.heap.size, 0, none⟩) 2 2) 2 _ rfl (src_two w2 (k : Int) ((catM file.toNat M).length : Int)) (by unfold maxLen; omega) (by omega) ?_; intro v3 w3 hv3 hf3 hn3 hd3; obtain ⟨g3, k3, rfl, _, _⟩ := hv3.some (by omega); have h23 : Fr (fun j => (Value.slice pa2 (2 * M.length) pc2).ownBlock = some j) w2 w3 := ((Fr.refl _ w2).alloc _).trans hf3 (fun _ _ h => h); have h83 := h23.get HS2.out.c8 hn8; have z8 := frozen_of h83 0; have y8 : w3.cell? ⟨g7 + 1 + 1, 0, none⟩ = some (.slice pa2 (2 * M.length) pc2) := cell_is h83 0 rfl; have HV3 := Lib.hid hv3; have HF3 := Lib.hid hf3; have HA4 := Lib.hid (HAL2.out w3 (w3.setCell ⟨g7 + 1 + 1, 0, none⟩ (.slice (some ⟨g3, 0, none⟩) (2 * M.length + 2) k3)) h23 ((Fr.refl (fun j => j = g7 + 1 + 1) _).setCell (p := ⟨g7 + 1 + 1, 0, none⟩) (.inl rfl) _) h83); clear hv3 hf3 hn3 hd3 h23 h83)
            | (at_builtin; refine wpList_append_Own _ rfl _ _ 22 rfl 5 (.int .u8 0) 1 1 Try.underlying22 Try.info5 rfl (by decide) (.slice (some ⟨g, 0, none⟩) (catM file.toNat M).length c) _ _ rfl HA4.out.1 (.slice a2 (frameOf file.toNat (catM file.toNat M).length x).length k2) _ _ rfl HA4.out.2.src (by have := HFL.out; unfold maxLen; omega) (by have := HFL.out; omega) ?_; intro v5 w5 hv5 hf5 hn5 hd5; obtain ⟨g5, k5, rfl, _, _⟩ := hv5.some (by have := HFL.out; omega); have HS5 := Lib.hid (HS2.out.push ⟨k, (catM file.toNat M).length, x⟩ HROW.out HX.out HV3.out HF3.out hv5 (hf5.mono (fun j _ h => by simp [Value.ownBlock] at h; exact h.symm))); clear hv5 hf5 hn5 hd5))
          go_roundw
          case rel =>
            have hl5 : (catM file.toNat (M ++ [⟨k, (catM file.toNat M).length, x⟩])).length = (catM file.toNat M).length + (frameOf file.toNat (catM file.toNat M).length x).length := by rw [catM_snoc, List.length_append]
            refine ⟨k + 1, _, g5, k5, _, by simp, hlt, by rw [hl5], by simpa using HS5.out, ?_, by simp; omega⟩
            rw [hl5, HFL.out, HT.out]
            omega
          case measure => simp [intOf]; omega
        · have hne : (errM file ((catM file.toNat M).length : Int) x != 0) = true := by simpa using he
          have hnm : ¬ (Placed file ∧ Placed ((catM file.toNat M).length : Int) ∧ 0 < x.length ∧ x.length ≤ 66000) := fun h => he (errM_may h)
          have HNM := Lib.hid hnm
          have HT2 := Lib.hid HT.out
          clear he hnm HO2
          generalize errM file ((catM file.toNat M).length : Int) x = er at *
          go_wp2_with (fail)
          refine (may_no file ((catM file.toNat M).length : Int) va x.length vc w2 HNM.out).mono ?_
          rintro e w' ⟨rfl, rfl⟩
          go_wp2_with (fail)
          go_roundw
          case rel => exact ⟨k + 1, M, g, c, plv, by simp, hlt, rfl, HS2.out, by rw [HT.out]; omega, by omega⟩
          case measure => simp [intOf]; omega
      · obtain rfl : k = ps.length := by omega
        clear hlt hk htk
        obtain ⟨pa2, pc2, rfl⟩ : ∃ ad c, plv = .slice ad (2 * M.length) c := by
          rcases HS.out.pl.shape with ⟨h1, h2, _⟩ | ⟨g', cap, h1, _⟩
          · exact ⟨_, _, by rw [h1, h2]⟩
          · exact ⟨_, _, h1⟩
        have e8 : wr.cell? ⟨g7 + 1 + 1, 0, none⟩ = some (.slice pa2 (2 * M.length) pc2) := cell_is HS.out.c8 0 rfl
        have e6 : wr.cell? ⟨b4 + 1, 0, none⟩ = some (.bool false) := cell_is HS.out.c6 0 rfl
        have z6 := frozen_of HS.out.c6 0
        by_cases hfp : Placed file
        · have hff := hfp
          unfold Placed at hff
          obtain ⟨hff0, hff1⟩ := hff
          have HFP := Lib.hid hfp
          clear hfp e6 z6
          have HS1 := Lib.hid (HS.out.kept ((Fr.refl (fun _ => False) wr).alloc (.cells #[.int .i64 ((catM file.toNat M).length : Int)] 3)))
          have h12 := heap_alloc_eq wr (.cells #[.int .i64 ((catM file.toNat M).length : Int)] 3)
          have H12 := Lib.hid h12
          clear h12
          generalize hw1 : wr.alloc (.cells #[.int .i64 ((catM file.toNat M).length : Int)] 3) = wa at *
          have HBA := Lib.hid (HB.out.fr HS1.out.fr)
          go_wp2_with (at_builtin; refine wpList_append_Own _ rfl _ _ 22 rfl 5 (.int .u8 0) 1 1 Try.underlying22 Try.info5 rfl (by decide) (.slice (some ⟨g, 0, none⟩) (catM file.toNat M).length c) _ _ rfl HS1.out.al (.slice ba bh.length bc) _ _ rfl HBA.out.src (by unfold maxLen; omega) (by omega) ?_; intro v5 w5 hv5 hf5 hn5 hd5; obtain ⟨g5, k5, rfl⟩ := own_nn hv5 (fun e => by have := (hn5.1 e).1; cases this); have HA5 := Lib.hid (OB.app (G := fun j => w.heap.size ≤ j) hv5 (fun _ h => h) (fun j h => Nat.le_trans HS1.out.fr.size h)); have HF5 := Lib.hid (hf5.mono (F' := fun j => j = g) (fun j _ h => by simp [Value.ownBlock] at h; exact h.symm)); clear hv5 hf5 hn5 hd5; have HE5 := Lib.hid (HS1.out.ended H12.out HF5.out HA5.out); have c12 : w5.cell? ⟨wr.heap.size, 0, none⟩ = some (.int .i64 ((catM file.toNat M).length : Int)) := cell_is HE5.out.c12 0 rfl)
          have HOK := Lib.hid (And.intro HS1.out.ok HS1.out.link)
          clear HA5 HF5 HS1 HS H12 e8
          refine (take_any file ((catM file.toNat M).length : Int) _ bh w5 (HB.out.fr HE5.out.fr)).mono ?_
          rintro e w6 ⟨v6, rfl, ho6, hf6⟩
          have HE6 := Lib.hid (HE5.out.kept hf6)
          clear ho6 hf6 c12 HE5
          go_wp2_with (fail)
          have HE7 := Lib.hid ((HE6.out.kept ((Fr.refl _ _).alloc (.cells #[.int .i64 (errOf file ((catM file.toNat M).length : Int) bh)] 30))).kept ((Fr.refl _ _).alloc (.cells #[.int .i64 0] 3)))
          have h15 : ((w6.alloc (.cells #[.int .i64 (errOf file ((catM file.toNat M).length : Int) bh)] 30)).alloc (.cells #[.int .i64 0] 3)).heap[w6.heap.size]? = some (.cells #[.int .i64 (errOf file ((catM file.toNat M).length : Int) bh)] 30 (0, 0)) := (heap_alloc_lt _ _ _ (by simp)).trans (heap_alloc_eq _ _)
          have h16 := heap_alloc_eq (w6.alloc (.cells #[.int .i64 (errOf file ((catM file.toNat M).length : Int) bh)] 30)) (.cells #[.int .i64 0] 3)
          rw [World.size_alloc] at h16
          have hnf := run_eql_func_nil (P := Try.prog) Try.underlying53
          refine (all_fr file ⟨g5, 0, none⟩ _ k5 _ _ HE7.out.al.rb (by simp; omega)).mono ?_
          rintro e w8 ⟨bf, bo, ga, ca, rfl, hF, hO, ho, hf8, hgf, hgo⟩
          have HE8 := Lib.hid (HE7.out.kept hf8)
          have H15 := Lib.hid (hf8.get h15 id)
          have H16 := Lib.hid (hf8.get h16 id)
          have HF8 := Lib.hid hF
          have HO8 := Lib.hid hO
          have HB8 := Lib.hid (Own.mono ho (fun k _ h => (trivial : True)))
          have HW8 := Lib.hid ho
          have hs6 := HE6.out.fr.size
          have hplb : ∀ j, (Value.slice pa2 (2 * M.length) pc2).ownBlock = some j → j < w6.heap.size := fun j hj => (HE6.out.pl.block j hj).2
          have HPLB := Lib.hid hplb
          clear hplb
          have hl12 := lt_of_heap HE6.out.c12
          have hl4 := lt_of_heap HE6.out.c4
          have hl6 := lt_of_heap HE6.out.c6
          have hl8 := lt_of_heap HE6.out.c8
          have hg8 := HOK.out
          simp only [World.size_alloc] at hgf hgo
          clear hF hO ho hf8 h15 h16 HE7 HE6 hg8
          generalize hb12 : wr.heap.size = b12 at *
          generalize hb15 : w6.heap.size = b15 at *
          go_wp2_with (fail)
          have hMl : M.length ≤ 2147483647 := by have := tot_nine ps; omega
          have hfr := frames_row file bh M 0 HOK.out.1
          rw [Nat.zero_add] at hfr
          have HFRM := Lib.hid hfr
          have HBW : Hid (∀ W : World, Fr (fun j => j = b15 + 1) w8 W → Fr (fun j => j = b15 + 1) w W) := Lib.hid (fun W h => (HE8.out.fr.mono (fun _ _ h => h.elim)).trans h (fun _ _ h => h))
          clear hfr
          refine (wpIn_wide (n := 1)).1 ?_
          refine wpIn_rangeFresh (gf := 46) (lb := #[.pointer (some ⟨bf, 0, none⟩), .pointer (some ⟨bo, 0, none⟩)]) rfl (enters_of Try.func46 (by kernel_rfl) rfl)
            (all_fresh file (catM file.toNat M ++ bh) bf bo ga ca w8 HF8.out HO8.out HB8.out (by simp; omega)) KeepAt.trans (keepAt_put (fdOwn_lt HF8.out HO8.out HB8.out)) (Below.refl _ _) (fun _ => rfl)
            (fun pre W => W.heap[b15 + 1]? = some (.cells #[.int .i64 (pre.length : Int)] 3 (0, 0)) ∧ pre.length ≤ M.length ∧ Fr (fun k => k = b15 + 1) w8 W)
            (fun c pre W => c = .ret ∧ W.heap[b4 + 1]? = some (.cells #[.bool true] 4 (0, 0)) ∧ Fr (fun k => k = b15 + 1 ∨ k = b4 + 1) w8 W) ?own ?own2 ⟨H16.out, Nat.zero_le _, Fr.refl _ _⟩
            (FdNext.fr) (fun _ _ _ _ _ _ h hr => FdNext.put _ _ _ _ _ _ h hr) ?round ?done ?stop
          case own =>
            intro s A B row ⟨h1, h2, h3⟩ hg hr
            exact ⟨(hg.block _ (lt_of_heap h1) (fun e => by have := (hr _ e.symm).1; have := lt_of_heap H16.out; omega)).trans h1, h2, h3.grown hg (fun k e => .inr (hr k e).1)⟩
          case own2 =>
            intro c0 s A B row ⟨h1, h2, h3⟩ hg hr
            exact ⟨h1, (hg.block _ (lt_of_heap h2) (fun e => by have := (hr _ e.symm).1; have := lt_of_heap HE8.out.c6; omega)).trans h2, h3.grown hg (fun k e => .inr (hr k e).1)⟩
          case round =>
            rintro l pre x V W1 W ⟨hi, hpl0, hf⟩ ⟨hx, hox, hfx⟩
            have hget := px_get hx
            rw [HFRM.out] at hget
            have hiW := hfx.get hi id
            have hfW : Fr (fun j => j = b15 + 1) w8 W := hf.trans hfx (fun _ _ h => h.elim)
            have HFW := Lib.hid hfW
            have HIW := Lib.hid hiW
            have HOX := Lib.hid hox
            have hkeep : ∀ j, fdOwn bf bo (.slice (some ⟨ga, 0, none⟩) (catM file.toNat M ++ bh).length ca) j → j < W.heap.size ∧ j ≠ b15 + 1 ∧ j ≠ b4 + 1 := fun j hj => by
              refine ⟨Nat.lt_of_lt_of_le (fdOwn_lt HF8.out HO8.out HB8.out j hj) hfW.size, ?_, ?_⟩
              · rcases hj with rfl | rfl | hj
                · omega
                · omega
                · have h := (Own.block HW8.out j hj).1
                  simp at h
                  omega
              · rcases hj with rfl | rfl | hj
                · omega
                · omega
                · have h := (Own.block HW8.out j hj).1
                  simp at h
                  omega
            have HKP := Lib.hid hkeep
            have i0 : W.cell? ⟨b15 + 1, 0, none⟩ = some (.int .i64 (pre.length : Int)) := cell_is hiW 0 rfl
            have i1 := frozen_of hiW 0
            have e8 : W.cell? ⟨g7 + 1 + 1, 0, none⟩ = some (.slice pa2 (2 * M.length) pc2) := cell_fr hfW (cell_is HE8.out.c8 0 rfl) (fun e => absurd (show g7 + 1 + 1 = b15 + 1 from e) (by omega))
            have e12 : W.cell? ⟨b12, 0, none⟩ = some (.int .i64 ((catM file.toNat M).length : Int)) := cell_fr hfW (cell_is HE8.out.c12 0 rfl) (fun e => absurd (show b12 = b15 + 1 from e) (by omega))
            have e4 : W.cell? ⟨b4, 0, none⟩ = some (.slice pa ps.length pc) := cell_fr hfW (cell_is HE8.out.c4 0 rfl) (fun e => absurd (show b4 = b15 + 1 from e) (by omega))
            have e6 : W.heap[b4 + 1]? = some (.cells #[.bool false] 4 (0, 0)) := hfW.get HE8.out.c6 (fun e => absurd (show b4 + 1 = b15 + 1 from e) (by omega))
            have e15 : W.cell? ⟨b15, 0, none⟩ = some (.int .i64 (errOf file ((catM file.toNat M).length : Int) bh)) := cell_fr hfW (cell_is H15.out 0 rfl) (fun e => absurd (show b15 = b15 + 1 from e) (by omega))
            clear hi hf hx hox hfx hiW hfW hkeep
            by_cases hlt : pre.length < M.length
            · rw [List.getElem?_append_left (by simpa using hlt), List.getElem?_map] at hget
              obtain ⟨m, hm, hkey⟩ := Option.map_eq_some_iff.1 hget
              obtain ⟨xp, xs, xv⟩ := x
              simp only [Fd.key, Mk.key, Prod.mk.injEq] at hkey
              obtain ⟨rfl, rfl⟩ := hkey
              have hmem : m ∈ M := List.mem_of_getElem? hm
              have hlk := HOK.out.2 m hmem
              have hil := (List.getElem?_eq_some_iff.1 hlk).1
              obtain ⟨vx, hvx, hrb⟩ := HP.out.each m.i m.xs hlk
              obtain rfl := HP.out.at0 (by omega)
              obtain ⟨gp, kp, hpe, _, _⟩ := HE8.out.pl.some (by omega)
              cases hpe
              have hgp : gp ≠ b15 + 1 := fun e => by have := HPLB.out gp rfl; omega
              have hold : ∀ j, j < w.heap.size → W.heap[j]? = w.heap[j]? := fun j hj => (HBW.out W HFW.out).block j hj (fun e => by omega)
              have p0 : W.cell? ⟨gp, 2 * pre.length, none⟩ = some (.int .i64 (m.i : Int)) := cell_fr HFW.out (HE8.out.pl.cell rfl (plsM_at M _ m hm).1) (fun e => hgp e)
              have p1 : W.cell? ⟨gp, 2 * pre.length + 1, none⟩ = some (.int .i64 (m.p : Int)) := cell_fr HFW.out (HE8.out.pl.cell rfl (plsM_at M _ m hm).2) (fun e => hgp e)
              have x0 : W.cell? ⟨pb, po + m.i, none⟩ = some vx := by
                rw [World.cell?_of_block (w := w) (hold pb (World.block_lt_of_cell? w _ hvx))]
                exact hvx
              have hrbW : RB W vx m.xs := hrb.of (fun j hj _ => hold j hj)
              have HSM : Hid (∀ n, Calls Try.prog 20 #[xv, vx] (W.drewN n) fun e w' => e = .returned (.bool true) ∧ ∃ j, w' = (W.drewN n).drewN j) := Lib.hid (fun n => by
                have hq := same_any _ _ _ _ (W.drewN n) (HOX.out.rb.drewN n) (hrbW.drewN n)
                rw [decide_eq_true rfl] at hq
                exact hq)
              obtain ⟨va, vc, rfl, hjunk⟩ := hrb
              obtain ⟨xa, xc, rfl⟩ := ob_shape (show OB 5 (fun k => W1.heap.size ≤ k) W xv m.xs from HOX.out)
              have hn1 : ((2 * pre.length : Nat) : Int) < 2 * (M.length : Int) := by omega
              clear hget hm hmem hlk hvx hjunk hold hrbW e12 e15
              generalize m.i = mi at *
              generalize m.p = mp at *
              gi_wp2
              refine wpIn_region_quiet_round (by kernel_rfl) (by kernel_rfl) (by kernel_rfl) ?_
              repeat (gi_big_quiet_step (fail))
              refine BigFrame.wpQuietIn_want (fun _ _ _ _ => trivial) rfl ?_
              intro K hK
              gi_big_quiet_op
              apply Exists.intro
              refine ⟨fun _ => ?_, ?_⟩
              · exact ⟨rfl, CallsIn.quiet_of (callsIn_wide.2 (HSM.out _))⟩
              go_big_quiet_on
              repeat (gi_big_quiet_step (fail))
              refine wpQuietIn_nil ?_
              rintro _ ⟨nq, rfl⟩
              gi_wp2
              have hsz := HFW.out.size
              refine ⟨keeps_drewN (KeepsOthers.setCell (W.drewN nq) _ _), ⟨by simp, fun j hj => ?_⟩, ?_, by simp; omega, (HFW.out.drewN nq).setCell (p := ⟨b15 + 1, 0, none⟩) (.inl rfl) _⟩
              · have hj2 := HKP.out j (by simpa using hj)
                exact heap_setCell_ne _ _ _ _ hj2.2.1
              · have h := heap_setCell_eq (w := W.drewN nq) 0 (.int .i64 ((pre.length : Int) + 1)) HIW.out
                simpa using h
            · have hpe : pre.length = M.length := by omega
              rw [List.getElem?_append_right (by simp; omega), List.length_map, hpe, Nat.sub_self] at hget
              have he0 : errOf file ((catM file.toNat M).length : Int) bh = 0 := by
                refine Decidable.byContradiction fun h => ?_
                rw [frames_err h] at hget
                simp at hget
              rw [frames_ok he0] at hget
              simp only [List.getElem?_cons_zero, Option.some.injEq] at hget
              obtain ⟨xp, xs, xv⟩ := x
              simp only [Fd.key, Prod.mk.injEq] at hget
              obtain ⟨rfl, rfl⟩ := hget
              rw [he0] at e15
              have z6 := frozen_of e6 0
              have y6 : W.cell? ⟨b4 + 1, 0, none⟩ = some (.bool false) := cell_is e6 0 rfl
              have E6 := Lib.hid e6
              clear e6 hlt he0
              have hcmp : ((2 : Int) * (M.length : Int) == 2 * (M.length : Int)) = true := by simp
              rw [hpe] at i0
              gi_wp2
              refine ⟨(KeepsOthers.setCell W _ _).from _, rfl, ?_, (HFW.out.mono (fun _ _ h => .inl h)).setCell (p := ⟨b4 + 1, 0, none⟩) (.inl (.inr rfl)) _⟩
              have h := heap_setCell_eq 0 (.bool true) E6.out
              simpa using h
          case done =>
            rintro D ys W hD hys ⟨hi, hpl0, hf⟩ hK
            rw [HFRM.out] at hys
            have hyl := congrArg List.length hys
            simp only [List.length_map, List.length_append] at hyl
            have hR : frames file (catM file.toNat M).length bh = [] := List.eq_nil_of_length_eq_zero (by omega)
            have her : errOf file ((catM file.toNat M).length : Int) bh ≠ 0 := fun h => by
              rw [frames_ok h] at hR
              cases hR
            have hyM : ys.length = M.length := by omega
            rw [hyM] at hi
            have i0 : W.cell? ⟨b15 + 1, 0, none⟩ = some (.int .i64 (M.length : Int)) := cell_is hi 0 rfl
            have e8 : W.cell? ⟨g7 + 1 + 1, 0, none⟩ = some (.slice pa2 (2 * M.length) pc2) := cell_fr hf (cell_is HE8.out.c8 0 rfl) (fun e => absurd (show g7 + 1 + 1 = b15 + 1 from e) (by omega))
            have e12 : W.cell? ⟨b12, 0, none⟩ = some (.int .i64 ((catM file.toNat M).length : Int)) := cell_fr hf (cell_is HE8.out.c12 0 rfl) (fun e => absurd (show b12 = b15 + 1 from e) (by omega))
            have e15 : W.cell? ⟨b15, 0, none⟩ = some (.int .i64 (errOf file ((catM file.toNat M).length : Int) bh)) := cell_fr hf (cell_is H15.out 0 rfl) (fun e => absurd (show b15 = b15 + 1 from e) (by omega))
            have e6 : W.heap[b4 + 1]? = some (.cells #[.bool false] 4 (0, 0)) := hf.get HE8.out.c6 (fun e => absurd (show b4 + 1 = b15 + 1 from e) (by omega))
            have hal : OB 5 (fun k => w.heap.size ≤ k) W (.slice (some ⟨g5, 0, none⟩) ((catM file.toNat M).length + bh.length) k5) (catM file.toNat M ++ bh) := Own.of HE8.out.al (fun j hj hb => hf.block j hj (fun e => own_ne H16.out (by decide) HE8.out.al (by rw [hb, e])))
            have hwh := whole_any file ⟨g5, 0, none⟩ _ k5 _ W.drew hal.rb (by simp; omega)
            rw [HFRM.out, hR, List.append_nil, wh_row file M HOK.out.1] at hwh
            have HWC := Lib.hid hwh
            have HE6 := Lib.hid e6
            have HFW := Lib.hid (HE8.out.fr.trans hf (fun k hk h => by omega))
            have HK := Lib.hid hK
            have hern : (errOf file ((catM file.toNat M).length : Int) bh != 0) = true := by simpa using her
            have hcmp : (IntKind.i64.wrap ((2 : Int) * (M.length : Int)) == 2 * (M.length : Int)) = true := by rw [IntWalk.i64_in _ ⟨by omega, by omega⟩]; simp
            have hDo : D ≠ b4 + 1 := fun e => by
              rw [e, e6] at hK
              cases hK
            clear hi hf hK hwh hal hR her hyl hys e6
            generalize errOf file ((catM file.toNat M).length : Int) bh = er at *
            go_wp2_with (fail)
            have hn8 : g7 + 1 + 1 ≠ b4 + 1 := ne_of_types HE8.out.c8 HE8.out.c6 (by decide)
            have hn12 : b12 ≠ b4 + 1 := ne_of_types HE8.out.c12 HE8.out.c6 (by decide)
            have hset : ∀ W9 : World, Fr (fun j => j = b4 + 1) W9 (W9.setCell ⟨b4 + 1, 0, none⟩ (.bool true)) := fun W9 => (Fr.refl (fun j => j = b4 + 1) _).setCell (p := ⟨b4 + 1, 0, none⟩) (.inl rfl) _
            have HSET := Lib.hid hset
            clear hset
            go_region_held3 (fun w' => w'.cell? ⟨b15 + 1, 0, none⟩ = some (.int .i64 (M.length : Int)) ∧ w'.cell? ⟨g7 + 1 + 1, 0, none⟩ = some (.slice pa2 (2 * M.length) pc2) ∧ w'.cell? ⟨b15, 0, none⟩ = some (.int .i64 er) ∧ w'.cell? ⟨b12, 0, none⟩ = some (.int .i64 ((catM file.toNat M).length : Int))) (first | exact ⟨i0, e8, e15, e12⟩ | exact ⟨k0, k1, k2, k3⟩ | exact ⟨cell_fr (HSET.out w9) k0 (fun e => absurd (show b15 + 1 = b4 + 1 from e) (by omega)), cell_fr (HSET.out w9) k1 (fun e => hn8 e), cell_fr (HSET.out w9) k2 (fun e => absurd (show b15 = b4 + 1 from e) (by omega)), cell_fr (HSET.out w9) k3 (fun e => hn12 e)⟩) (first
              | (go_at_call 28; refine HWC.out.mono ?_; rintro e w9 ⟨rfl, hf9⟩; have HF9 := Lib.hid hf9; have h69 := hf9.get (show W.drew.heap[b4 + 1]? = _ from HE6.out) id; have H69 := Lib.hid h69; have k0 : w9.cell? ⟨b15 + 1, 0, none⟩ = some (.int .i64 (M.length : Int)) := cell_fr (a := W.drew) hf9 i0 id; have k1 : w9.cell? ⟨g7 + 1 + 1, 0, none⟩ = some (.slice pa2 (2 * M.length) pc2) := cell_fr (a := W.drew) hf9 e8 id; have k2 : w9.cell? ⟨b15, 0, none⟩ = some (.int .i64 er) := cell_fr (a := W.drew) hf9 e15 id; have k3 : w9.cell? ⟨b12, 0, none⟩ = some (.int .i64 ((catM file.toNat M).length : Int)) := cell_fr (a := W.drew) hf9 e12 id; have k4 : w9.cell? ⟨b4 + 1, 0, none⟩ = some (.bool false) := cell_is h69 0 rfl; have k6 := frozen_of h69 0; clear hf9 h69))
            all_goals
              go_wp2_with (fail)
              have hK9 : w9.heap[D]? = some (.deferred (some [])) := HF9.out.get (show W.drew.heap[D]? = _ from HK.out) id
              have hK' : (w9.setCell ⟨b4 + 1, 0, none⟩ (.bool true)).heap[D]? = some (.deferred (some [])) := (heap_setCell_ne _ _ _ _ hDo).trans hK9
              refine ⟨by simp, .inl ⟨_, _, rfl, run_takeDeferred hK', ?_⟩⟩
              have hc5 : ((w9.setCell ⟨b4 + 1, 0, none⟩ (.bool true)).putObj D (.deferred none)).cell? ⟨b4 + 1, 0, none⟩ = some (.bool true) := by
                rw [cell?_putObj _ _ _ _ (Ne.symm hDo)]
                exact World.cell?_setCell_same' _ _ _ (by rw [k4]; rfl)
              refine ⟨.bool true, ?_, rfl, (((HFW.out.drew.trans HF9.out (fun _ _ h => h.elim)).setCell (p := ⟨b4 + 1, 0, none⟩) (.inr (show w.heap.size ≤ b4 + 1 by omega)) _).putObj (.inr (Nat.le_trans HE8.out.fr.size hD)) _)⟩
              simp [results, Try.f11, go_sem, hc5]
          case stop =>
            rintro D c0 pre W hD _ ⟨rfl, h6, hf⟩ hK
            have hDb : D ≠ b4 + 1 := fun e => by
              rw [e, h6] at hK
              cases hK
            have HFW := Lib.hid hf
            have HK := Lib.hid hK
            have hc5 : (W.putObj D (.deferred none)).cell? ⟨b4 + 1, 0, none⟩ = some (.bool true) := by
              rw [cell?_putObj _ _ _ _ (Ne.symm hDb)]
              exact cell_is h6 0 rfl
            clear hf hK
            gi_wp2
            refine ⟨by simp, .inl ⟨_, _, rfl, run_takeDeferred HK.out, ?_⟩⟩
            refine ⟨.bool true, ?_, rfl, ((HE8.out.fr.trans HFW.out (fun k hk h => by rcases h with h | h <;> omega)).putObj (.inr (Nat.le_trans HE8.out.fr.size hD)) _)⟩
            simp [results, Try.f11, go_sem, hc5]
        · have hM0 : M = [] := by
            cases M with
            | nil => rfl
            | cons m r => exact absurd HS.out.ok.2.1 hfp
          subst hM0
          unfold Placed at hfp
          have hfin : ∀ W : World, W = wr.setCell ⟨b4 + 1, 0, none⟩ (.bool true) → W.cell? ⟨b4 + 1, 0, none⟩ = some (.bool true) ∧ Fr (fun _ => False) w W := fun W hW => by
            subst hW
            exact ⟨World.cell?_setCell_same' _ _ _ (by rw [e6]; rfl), HS.out.fr.setCell (p := ⟨b4 + 1, 0, none⟩) (.inr (show w.heap.size ≤ b4 + 1 by omega)) _⟩
          by_cases hneg : file < 0
          · go_wp2_with (fail)
            obtain ⟨hc5, hfr⟩ := hfin _ rfl
            refine ⟨.bool true, ?_, rfl, hfr⟩
            simp [results, Try.f11, go_sem, hc5]
          · have hbig : 4611686018427387903 < file := by omega
            go_wp2_with (fail)
            obtain ⟨hc5, hfr⟩ := hfin _ rfl
            refine ⟨.bool true, ?_, rfl, hfr⟩
            simp [results, Try.f11, go_sem, hc5]

end Go.Proofs.Ytgobbgklmjnnlaa
