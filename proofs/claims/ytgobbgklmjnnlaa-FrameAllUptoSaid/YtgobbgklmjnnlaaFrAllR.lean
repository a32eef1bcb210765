/- The document's All: the frames with which some bytes begin, in a list. -/
import Derived.Test.YtgobbgklmjnnlaaFrWhole
import Derived.Test.YtgobbgklmjnnlaaFrTakeR
namespace Go.Proofs.Ytgobbgklmjnnlaa
open Go.RowKit Go.Sb
attribute [local go_sem] Oper.semAt_some

theorem _root_.Go.Sb.RB.cutl {w : World} {a : Option Addr} {n c : Nat} {xs : List UInt8} (h : RB w (.slice a n c) xs) (l : Nat) (hl : l ≤ n) : RB w (.slice (if c = l then a else a.map (·.add l)) (n - l) (c - l)) (xs.drop l) := by
  obtain ⟨a', c', he, h1, h2, h3⟩ := h
  cases he
  refine ⟨_, _, by rw [List.length_drop], by rw [List.length_drop]; omega, by omega, ?_⟩
  rcases h3 with ⟨rfl, rfl⟩ | ⟨b, o, s, rfl, hs, h4⟩
  · exact .inl ⟨by split <;> rfl, by omega⟩
  · right
    by_cases hc : c = l
    · rw [if_pos hc]
      refine ⟨b, o, s, rfl, fun hx => absurd (by rw [List.drop_eq_nil_iff]; omega) hx, fun i hi => ?_⟩
      rw [List.length_drop] at hi
      omega
    · rw [if_neg hc]
      by_cases hx : xs = []
      · subst hx
        exact ⟨_, _, _, rfl, fun h => absurd (by simp) h, fun i hi => by simp at hi⟩
      · obtain rfl := hs hx
        refine ⟨b, o + l, none, ?_, fun _ => rfl, fun i hi => ?_⟩
        · unfold Addr.add; simp
        · rw [List.length_drop] at hi
          rw [List.getElem_drop, show o + l + i = o + (l + i) by omega]
          exact h4 (l + i) (by omega)

theorem sub_l (w : World) (a : Option Addr) (n c l : Nat) (h : l ≤ n) : (Instr.sliceAt 22 (.slice a n c) (some (.int .i64 (l : Int))) none none).run Try.prog w = .ok (.slice (if c = l then a else a.map (·.add l)) (n - l) (c - l)) w := by
  have hl : (l : Int) ≤ n := by omega
  simp [go_sem, hl]

section
variable {w : World} {ops : Array Oper} {rest : List Oper} {o : Oper} {a : Act} {Q : Exit → Act → World → Prop}
/-- a slice of bytes, cut from a place on, at the operation -/
theorem wpList_cutl (hg : o.guard = none) (so lo : Operand) (hop : o.op = .slice 22 so (some lo) none none) (b : Option Addr) (n c l : Nat) (xs : List UInt8) (hs : a.eval so = .slice b n c) (hlo : a.eval lo = .int .i64 (l : Int)) (hb : RB w (.slice b n c) xs) (h : l ≤ n)
    (hK : ∀ b' c', RB w (.slice b' (xs.drop l).length c') (xs.drop l) → wpList Try.prog ops Q rest (a.put o.dst (.slice b' (xs.drop l).length c')) w) : wpList Try.prog ops Q (o :: rest) a w := by
  refine wpList_plain hg fun K' hK' => ?_
  have hrun := sub_l w b n c l h
  have hb2 := hb.cutl l h
  obtain ⟨a', c', he, h1, h2, h3⟩ := hb
  cases he
  unfold Oper.wp
  simp [execOp, hop, hs, hlo, hrun, Result.andThen]
  rw [← List.length_drop] at hb2 ⊢
  exact hK' _ _ (hK _ _ hb2)

end

theorem Try.und44 : Try.prog.underlying 44 = some (.slice 66) := by kernel_rfl
theorem Try.info66 : (Try.prog.info? 66).map (fun i => (i.zero, i.size, i.bytes)) = some (some (.agg #[.int .i64 0, .slice none 0 0]), 2, 32) := by kernel_rfl

/-- the cells of a list of frames -/
def fdCells (ws : List Fd) : List Value := ws.flatMap (fun x => [.int .i64 x.p, x.v])

theorem fdCells_snoc (ws : List Fd) (x : Fd) : fdCells (ws ++ [x]) = fdCells ws ++ [.int .i64 x.p, x.v] := by simp [fdCells]
theorem fdCells_at : ∀ (ws : List Fd) (n : Nat) (x : Fd), ws[n]? = some x → (fdCells ws)[n * 2]? = some (.int .i64 x.p) ∧ (fdCells ws)[n * 2 + 1]? = some x.v
  | y :: ws, 0, x, h => by simp at h; subst h; exact ⟨rfl, rfl⟩
  | y :: ws, n + 1, x, h => by
    have ih := fdCells_at ws n x (by simpa using h)
    have e : fdCells (y :: ws) = .int .i64 y.p :: y.v :: fdCells ws := rfl
    rw [e, show (n + 1) * 2 = n * 2 + 1 + 1 by omega]
    simpa using ih
  | [], n, x, h => by simp at h

/-- A list of frames in memory. -/
structure WRep (F : Nat → Prop) (w : World) (l : Value) (ws : List Fd) : Prop where
  own : Sb.Own 66 2 F w l ws.length (fdCells ws)
  each : ∀ x ∈ ws, OB 5 F w x.v x.xs

theorem WRep.fr {F G : Nat → Prop} {w w' : World} {l : Value} {ws : List Fd} (h : WRep F w l ws) (hf : Fr G w w') (hn : ∀ k, k < w.heap.size → F k → ¬ G k) : WRep F w' l ws :=
  ⟨h.own.fr hf hn, fun x hx => Own.fr (h.each x hx) hf hn⟩

/-- a value of two cells just laid -/
theorem src_pair (w : World) (u v : Value) (n : Nat) (T : TypeId) (hu : u.oneCell' = true) (hv : v.oneCell' = true) (hn : n = w.heap.size) : Src (w.alloc (.cells #[u, v] T)) (.slice (some ⟨n, 0, none⟩) 1 1) 1 2 [u, v] := by
  subst hn
  refine ⟨by simp, fun x hx => ?_, .inr ⟨_, 1, rfl, fun j x hx => ?_⟩⟩
  · simp only [List.mem_cons, List.not_mem_nil, or_false] at hx
    rcases hx with rfl | rfl <;> assumption
  · have ha : (⟨w.heap.size, 0, none⟩ : Addr).add j = ⟨w.heap.size, j, none⟩ := by unfold Addr.add; split <;> simp_all
    rw [ha, cell_of (heap_alloc_eq w (.cells #[u, v] T))]
    simpa using hx

theorem own_neZ {TH R : TypeId} {z : Nat} {F : Nat → Prop} {w : World} {h : Nat} {cs : Array Value} (hh : w.heap[h]? = some (.cells cs TH (0, 0))) (hne : TH ≠ R) {v : Value} {n : Nat} {xs : List Value} (hv : Sb.Own R z F w v n xs) : v.ownBlock ≠ some h := by
  intro hk
  rcases hv.2 with ⟨rfl, _⟩ | ⟨g, cap, cur, rfl, _, hgg, _⟩
  · cases hk
  · simp only [Value.ownBlock, Option.some.injEq] at hk
    subst hk
    exact ne_of_types hh hgg hne rfl

theorem WRep.push {w0 w1 w3 : World} {l v3 : Value} {ws : List Fd} (h : WRep (fun k => w0.heap.size ≤ k) w1 l ws) (hf0 : Fr (fun _ => False) w0 w1) (x : Fd) (hx : OB 5 (fun k => w0.heap.size ≤ k) w1 x.v x.xs) {o : Obj}
    (hv : Sb.Own 66 2 (ex (fun k => w0.heap.size ≤ k) (w1.alloc o)) w3 v3 (ws.length + 1) (fdCells ws ++ [.int .i64 x.p, x.v])) (hf : Fr (fun k => l.ownBlock = some k) (w1.alloc o) w3) :
    WRep (fun k => w0.heap.size ≤ k) w3 v3 (ws ++ [x]) ∧ Fr (fun _ => False) w0 w3 := by
  have hs := hf0.size
  have f13 : Fr (fun k => l.ownBlock = some k) w1 w3 := ((Fr.refl _ w1).alloc o).trans hf (fun _ _ h => h)
  refine ⟨⟨?_, fun y hy => ?_⟩, hf0.trans f13 (fun k hk hb => by have := (h.own.block k hb).1; omega)⟩
  · rw [fdCells_snoc, List.length_append]
    exact hv.mono (fun k _ hk => hk.elim id (fun hk => by simp at hk; omega))
  · have hy1 : OB 5 (fun k => w0.heap.size ≤ k) w1 y.v y.xs := by
      rcases List.mem_append.1 hy with hy | hy
      · exact h.each y hy
      · simp only [List.mem_singleton] at hy
        subst hy
        exact hx
    refine Own.of hy1 (fun k hk hb => f13.block k hk (fun hb' => ?_))
    rcases hy1.2 with ⟨hv0, _⟩ | ⟨g, cap, cur, hv0, _, hg, _⟩
    · rw [hv0] at hb; cases hb
    · rw [hv0] at hb
      simp only [Value.ownBlock, Option.some.injEq] at hb
      subst hb
      exact own_neZ (R := 66) hg (by decide) h.own hb'

def AllRel (w : World) (file : Int) (bs : List UInt8) (l i : Value) (wr : World) : Prop :=
  ∃ (p : Nat) (pre : List Fd), i = .int .i64 (p : Int) ∧ p ≤ bs.length ∧ pre.map Fd.key ++ frames file p (bs.drop p) = frames file 0 bs ∧ WRep (fun k => w.heap.size ≤ k) wr l pre ∧ Fr (fun _ => False) w wr ∧ pre.length ≤ p

set_option maxRecDepth 100000 in
set_option maxHeartbeats 2000000 in
theorem refall_any (file : Int) (a0 : Option Addr) (c0 : Nat) (bs : List UInt8) (w : World) (hv : RB w (.slice a0 bs.length c0) bs) (hm : bs.length ≤ 1048576) :
    Calls Try.prog 27 #[.int .i64 file, .slice a0 bs.length c0] w fun e w' => ∃ l ws, e = .returned l ∧ WRep (fun k => w.heap.size ≤ k) w' l ws ∧ ws.map Fd.key = frames file 0 bs ∧ Fr (fun _ => False) w w' := by
  have HV := Lib.hid hv
  clear hv
  go_enter Try.func27, Try.ntmps27
  go_wp2_with (fail)
  go_loopw [5, 6] (fun l i wr => AllRel w file bs l i wr) (fun _ i _ => bs.length - (intOf i).toNat)
  case atStart => exact ⟨0, [], rfl, Nat.zero_le _, by simp, ⟨Own.empty 66 2 _ w (Nat.le_refl _), by simp⟩, (Fr.refl _ _).alloc _, Nat.le_refl _⟩
  case round =>
    obtain ⟨p, pre, rfl, hp, hL, hw, hf, hn⟩ := hrel
    have HL := Lib.hid hL
    have HW := Lib.hid hw
    have HF := Lib.hid hf
    clear hL hw hf
    have HRB := Lib.hid (HV.out.fr HF.out)
    by_cases he : errOf file (p : Int) (bs.drop p) = 0
    · have hmany : manyOf file (p : Int) (bs.drop p) = ((8 + lenOf (bs.drop p) : Nat) : Int) := by unfold manyOf; rw [if_pos he]
      have hrest : restOf file (p : Int) (bs.drop p) = payOf (bs.drop p) := by unfold restOf; rw [if_pos he]
      have hle := (errOf_len he).1
      rw [List.length_drop] at hle
      have hLx := HL.out
      rw [frames_ok he, List.drop_drop] at hLx
      have HLX := Lib.hid hLx
      have HT : Hid (∀ (v : Value), RB wr v (bs.drop p) → Calls Try.prog 25 #[.int .i64 file, .int .i64 p, v] wr (TakePost wr 0 ((8 + lenOf (bs.drop p) : Nat) : Int) (payOf (bs.drop p)))) := Lib.hid (fun v h => by
        have := taker_any file p v (bs.drop p) wr h
        rwa [ans_ok he] at this)
      clear hLx hmany hrest he HL
      generalize payOf (bs.drop p) = xs at *
      generalize lenOf (bs.drop p) = k at *
      obtain ⟨dl, hdl⟩ : ∃ dl, (bs.drop p).length = dl := ⟨_, rfl⟩
      have HDL := Lib.hid hdl
      clear hdl
      go_wp2_with (first
        | (refine wpList_cutl rfl _ _ rfl a0 bs.length c0 p bs rfl rfl HRB.out hp ?_; intro b' c' hb'; rw [HDL.out] at hb' ⊢; have HBC := Lib.hid hb'; clear hb')
        | (go_at_call 25; refine (HT.out _ HBC.out).mono ?_; rintro e w1 ⟨v1, rfl, ho1, hf1⟩; obtain ⟨va, vc, rfl⟩ := ob_shape ho1; have HO1 := Lib.hid ho1; have HF1 := Lib.hid hf1; have HW1 := Lib.hid (HW.out.fr hf1 (fun _ _ _ h => h)); clear ho1 hf1)
        | (at_builtin; refine wpList_append_Own _ rfl _ _ 44 rfl 66 (.agg #[.int .i64 0, .slice none 0 0]) 2 32 Try.und44 Try.info66 rfl (by decide) _ pre.length (fdCells pre) rfl (HW1.out.own.alloc _) (.slice (some ⟨w1.heap.size, 0, none⟩) 1 1) 1 [.int .i64 p, .slice va xs.length vc] rfl (src_pair w1 (.int .i64 p) (.slice va xs.length vc) _ 66 rfl rfl rfl) (by unfold maxLen; omega) (by omega) ?_; intro v3 w3 hv3 hf3 hn3 hd3; have HV3 := Lib.hid hv3; have HF3 := Lib.hid hf3; clear hv3 hf3 hn3 hd3))
      go_roundw
      case rel =>
        obtain ⟨hw3, hf3⟩ := HW1.out.push (HF.out.trans HF1.out (fun _ _ h => h)) ⟨p, xs, .slice va xs.length vc⟩ (Own.mono HO1.out (fun k _ hk => Nat.le_trans HF.out.size hk)) HV3.out HF3.out
        refine ⟨p + (8 + k), _, by simp, by omega, ?_, hw3, hf3, by rw [List.length_append]; simp; omega⟩
        rw [List.map_append, List.append_assoc]
        exact HLX.out
      case measure => simp [intOf]; omega
    · have hne : (errOf file (p : Int) (bs.drop p) != 0) = true := by simpa using he
      have hLx := HL.out
      rw [frames_err he, List.append_nil] at hLx
      have HLX := Lib.hid hLx
      have HT : Hid (∀ (v : Value), RB wr v (bs.drop p) → Calls Try.prog 25 #[.int .i64 file, .int .i64 p, v] wr (TakeAns wr file p (bs.drop p))) := Lib.hid (fun v h => taker_any file p v (bs.drop p) wr h)
      clear hLx he HL
      obtain ⟨dl, hdl⟩ : ∃ dl, (bs.drop p).length = dl := ⟨_, rfl⟩
      have HDL := Lib.hid hdl
      clear hdl
      go_wp2_with (first
        | (refine wpList_cutl rfl _ _ rfl a0 bs.length c0 p bs rfl rfl HRB.out hp ?_; intro b' c' hb'; rw [HDL.out] at hb' ⊢; have HBC := Lib.hid hb'; clear hb')
        | (go_at_call 25; refine (HT.out _ HBC.out).mono ?_; rintro e w1 ⟨v1, rfl, ho1, hf1⟩; have HF1 := Lib.hid hf1; have HW1 := Lib.hid (HW.out.fr hf1 (fun _ _ _ h => h)); clear ho1 hf1))
      go_ret
      exact ⟨_, pre, rfl, HW1.out, HLX.out, HF.out.trans HF1.out (fun _ _ h => h)⟩

def sumF (L : List (Int × List UInt8)) : Int := (L.map (fun q => 8 + (q.2.length : Int))).sum
theorem sumF_snoc (L : List (Int × List UInt8)) (q : Int × List UInt8) : sumF (L ++ [q]) = sumF L + 8 + (q.2.length : Int) := by simp [sumF]; omega

theorem fs_sum (file : Int) : ∀ (k p : Nat) (bs : List UInt8), fsAt file k p bs ≠ [] → whOf (fsAt file k p bs) = (p : Int) + sumF (fsAt file k p bs)
  | 0, _, _, h => absurd rfl h
  | k + 1, p, bs, h => by
    unfold fsAt at h ⊢
    by_cases he : errOf file (p : Int) bs = 0
    · rw [if_pos he] at h ⊢
      have hl := (errOf_len he).1
      by_cases hr : fsAt file k (p + (8 + lenOf bs)) (bs.drop (8 + lenOf bs)) = []
      · rw [hr]
        simp [whOf, sumF]
        omega
      · have ih := fs_sum file k _ _ hr
        have hw : ∀ (q : Int × List UInt8) (L : List (Int × List UInt8)), L ≠ [] → whOf (q :: L) = whOf L := fun q L hL => by
          unfold whOf
          rw [List.getLast?_cons_of_ne_nil hL]
        rw [hw _ _ hr, ih]
        simp only [sumF, List.map_cons, List.sum_cons]
        rw [payOf_length hl]
        omega
    · rw [if_neg he] at h
      exact absurd rfl h

theorem frames_sum (file : Int) (bs : List UInt8) : whOf (frames file 0 bs) = sumF (frames file 0 bs) := by
  by_cases h : frames file 0 bs = []
  · rw [h]; rfl
  · have := fs_sum file _ 0 bs h
    simpa [frames] using this

theorem WRep.at {F : Nat → Prop} {w : World} {l : Value} {ws : List Fd} (h : WRep F w l ws) {n : Nat} {x : Fd} (hx : ws[n]? = some x) :
    ∃ g c, l = .slice (some ⟨g, 0, none⟩) ws.length c ∧ w.cell? ⟨g, n * 2, none⟩ = some (.int .i64 x.p) ∧ w.cell? ⟨g, n * 2 + 1, none⟩ = some x.v ∧ c ≤ maxLen ∧ ws.length ≤ c := by
  have hn : n < ws.length := (List.getElem?_eq_some_iff.1 hx).1
  obtain ⟨h1, h2⟩ := fdCells_at ws n x hx
  rcases h.own.2 with ⟨_, h0⟩ | ⟨g, cap, cur, rfl, _, hg, hc1, hc2, _⟩
  · omega
  · exact ⟨g, cap, rfl, h.own.cell rfl h1, h.own.cell rfl h2, hc2, hc1⟩

theorem WRep.shape {F : Nat → Prop} {w : World} {l : Value} {ws : List Fd} (h : WRep F w l ws) : ∃ a c, l = .slice a ws.length c := by
  rcases h.own.2 with ⟨rfl, h0⟩ | ⟨g, cap, cur, rfl, _⟩
  · exact ⟨none, 0, by rw [h0]⟩
  · exact ⟨_, _, rfl⟩

theorem frames_le (file : Int) : ∀ (k p : Nat) (bs : List UInt8), 0 ≤ sumF (fsAt file k p bs) ∧ sumF (fsAt file k p bs) ≤ (bs.length : Int) ∧ ((fsAt file k p bs).length : Int) ≤ bs.length
  | 0, _, _ => by simp [fsAt, sumF]
  | k + 1, p, bs => by
    unfold fsAt
    by_cases he : errOf file (p : Int) bs = 0
    · rw [if_pos he]
      have hl := (errOf_len he).1
      have ih := frames_le file k (p + (8 + lenOf bs)) (bs.drop (8 + lenOf bs))
      rw [List.length_drop] at ih
      simp only [sumF, List.map_cons, List.sum_cons, List.length_cons] at ih ⊢
      rw [payOf_length hl]
      omega
    · rw [if_neg he]
      simp [sumF]

theorem sumF_pos (L : List (Int × List UInt8)) : 0 ≤ sumF L := by
  induction L with
  | nil => simp [sumF]
  | cons q L ih => simp only [sumF, List.map_cons, List.sum_cons] at ih ⊢; omega
theorem sumF_take : ∀ (L : List (Int × List UInt8)) (k : Nat), sumF (L.take k) ≤ sumF L
  | [], k => by simp
  | q :: L, 0 => by rw [List.take_zero]; exact sumF_pos _
  | q :: L, k + 1 => by
    have ih := sumF_take L k
    simp only [List.take_succ_cons, sumF, List.map_cons, List.sum_cons] at ih ⊢
    omega

def WhRel (w : World) (l : Value) (ws : List Fd) (n i : Value) (wr : World) : Prop :=
  ∃ k : Nat, i = .int .i64 (k : Int) ∧ k ≤ ws.length ∧ n = .int .i64 (sumF ((ws.take k).map Fd.key)) ∧ WRep (fun k => w.heap.size ≤ k) wr l ws ∧ Fr (fun _ => False) w wr

set_option maxRecDepth 100000 in
set_option maxHeartbeats 2000000 in
theorem refwhole_any (file : Int) (a0 : Option Addr) (c0 : Nat) (bs : List UInt8) (w : World) (hv : RB w (.slice a0 bs.length c0) bs) (hm : bs.length ≤ 1048576) :
    Calls Try.prog 29 #[.int .i64 file, .slice a0 bs.length c0] w fun e w' => e = .returned (.int .i64 (whOf (frames file 0 bs))) ∧ Fr (fun _ => False) w w' := by
  have HV := Lib.hid hv
  clear hv
  go_enter Try.func29, Try.ntmps29
  go_wp2_with (fail)
  refine (refall_any file a0 c0 bs w HV.out hm).mono ?_
  rintro e w1 ⟨l, ws, rfl, hw, hk, hf⟩
  have HW := Lib.hid hw
  have HF := Lib.hid hf
  have hle := frames_le file bs.length 0 bs
  have hfr : fsAt file bs.length 0 bs = ws.map Fd.key := hk.symm
  rw [hfr, List.length_map] at hle
  obtain ⟨hs0, hs1, hn⟩ := hle
  have HK := Lib.hid hk
  obtain ⟨al, cl, rfl⟩ := hw.shape
  clear hw hf hk hfr
  go_wp2_with (fail)
  go_loopw [6, 7] (fun n i wr => WhRel w (.slice al ws.length cl) ws n i wr) (fun _ i _ => ws.length - (intOf i).toNat)
  case atStart => exact ⟨0, rfl, Nat.zero_le _, rfl, HW.out, HF.out⟩
  case round =>
    obtain ⟨k, rfl, hk, rfl, hw, hf⟩ := hrel
    have HF2 := Lib.hid hf
    have HW2 := Lib.hid hw
    clear HF HW
    by_cases hlt : k < ws.length
    · have hx : ws[k]? = some (ws[k]'hlt) := List.getElem?_eq_getElem hlt
      have hmem : ws[k]'hlt ∈ ws := List.getElem_mem hlt
      have hsum : sumF ((ws.take (k + 1)).map Fd.key) = sumF ((ws.take k).map Fd.key) + 8 + ((ws[k]'hlt).xs.length : Int) := by
        rw [List.take_add_one, hx]
        simp only [Option.toList_some, List.map_append, List.map_cons, List.map_nil]
        rw [sumF_snoc]
        rfl
      have HSUM := Lib.hid hsum
      have hz0 := sumF_pos ((ws.take k).map Fd.key)
      have hz1 : sumF ((ws.take (k + 1)).map Fd.key) ≤ sumF (ws.map Fd.key) := by rw [List.map_take]; exact sumF_take _ _
      rw [hsum] at hz1
      obtain ⟨pv, pc, hpv⟩ := ob_shape (hw.each _ hmem)
      obtain ⟨g, c, hl, h1, h2, hc1, hc2⟩ := hw.at hx
      cases hl
      rw [hpv] at h2
      generalize (ws[k]'hlt).xs = xs at *
      generalize sumF (ws.map Fd.key) = y at *
      generalize sumF ((ws.take k).map Fd.key) = z at *
      clear hw hf hsum hpv hmem hx h1
      unfold maxLen at hc1
      go_wp2_with (fail)
      go_roundw
      case rel => 
        refine ⟨k + 1, by simp, hlt, ?_, ?_, ?_⟩
        · rw [HSUM.out]
        · exact HW2.out
        · exact HF2.out
      case measure => simp [intOf]; omega
    · have hkn : k = ws.length := by omega
      subst hkn
      rw [List.take_length]
      clear hw hf
      go_wp2_with (fail)
      go_ret
      exact ⟨by rw [frames_sum, ← HK.out]; rfl, HF2.out⟩

end Go.Proofs.Ytgobbgklmjnnlaa
