/- What Get reads of some bytes; slices of bytes, cut. -/
import Derived.Test.YtpecbhimnpjkdaaRcFacts
import Derived.Test.YtpecbhimnpjkdaaRcNumber
import Derived.Test.YtpecbhimnpjkdaaRcRec
import Derived.Laws.IdiomStrings
namespace Go.Sb
open Go.RowKit

/-- two results, a cell's row and a slot -/
theorem results_cell_tmp_row {P : Program} {fn : Func} {p q : Tmp} {ty : TypeId} (h : fn.results = #[.cell p ty, .tmp q]) (tmps : Array Value) (w : World) (g : Nat) (t : TypeId) (cs : Array Value) (fr : Nat × Nat) (d : TypeDesc)
    (hp : tmps.getD p undef = .pointer (some ⟨g, 0, none⟩)) (hg : w.heap[g]? = some (.cells cs t fr))
    (hu : P.underlying ty = some d) (hd : (match d with | .struct _ | .array _ _ => true | _ => false) = true) (hi : (P.info? ty).map (·.size) = some cs.size) :
    (results fn tmps).run P w = .ok (.tuple #[.agg cs, tmps.getD q undef]) w := by
  have hp' : tmps[p]?.getD undef = .pointer (some ⟨g, 0, none⟩) := by simpa using hp
  simp [results, h, hp', asAddr, run_loadVar_row w g t ty cs fr d hg hu hd hi]

theorem RB.cutl {w : World} {a : Option Addr} {n c : Nat} {xs : List UInt8} (h : RB w (.slice a n c) xs) (l : Nat) (hl : l ≤ n) : RB w (.slice (if c = l then a else a.map (·.add l)) (n - l) (c - l)) (xs.drop l) := by
  obtain ⟨a', c', he, h1, h2, h3⟩ := h
  cases he
  refine ⟨_, _, by rw [List.length_drop], by rw [List.length_drop]; omega, by omega, ?_⟩
  rcases h3 with ⟨rfl, rfl⟩ | ⟨b, o, s, rfl, hs, h4⟩
  · exact .inl ⟨by split <;> rfl, by omega⟩
  · right
    by_cases hc : c = l
    · rw [if_pos hc]
      refine ⟨b, o, s, rfl, fun hx => absurd (by rw [List.drop_eq_nil_iff]; omega) hx, fun i hi => ?_⟩
      rw [List.length_drop] at hi
      omega
    · rw [if_neg hc]
      by_cases hx : xs = []
      · subst hx
        refine ⟨_, _, _, rfl, fun h => absurd (by simp) h, fun i hi => by simp at hi⟩
      · obtain rfl := hs hx
        refine ⟨b, o + l, none, by rw [Option.map_some, Addr.add_mid], fun _ => rfl, fun i hi => ?_⟩
        rw [List.getElem_drop, Nat.add_assoc]
        exact h4 (l + i) (by rw [List.length_drop] at hi; omega)

theorem RB.cutlh {w : World} {a : Option Addr} {n c : Nat} {xs : List UInt8} (h : RB w (.slice a n c) xs) (l m : Nat) (hl : l ≤ m) (hm : m ≤ n) : RB w (.slice (if c = l then a else a.map (·.add l)) (m - l) (c - l)) ((xs.drop l).take (m - l)) := by
  have hb := h.cutl l (by omega)
  obtain ⟨a0, c0, he, -, h2, -⟩ := h
  cases he
  generalize (if c = l then a else a.map (·.add l)) = a1 at *
  obtain ⟨a', c', he, h1, h2', h3⟩ := hb
  obtain ⟨ha, -, hc'⟩ : a1 = a' ∧ xs.length - l = (xs.drop l).length ∧ c - l = c' := by
    injection he with e1 e2 e3
    exact ⟨e1, e2, e3⟩
  subst ha
  subst hc'
  rw [List.length_drop] at h1
  have hlen : ((xs.drop l).take (m - l)).length = m - l := by simp; omega
  refine ⟨_, _, by rw [hlen], by rw [hlen]; omega, h2', ?_⟩
  rcases h3 with ⟨h3, h4⟩ | ⟨b, o, s, h3, hs, h4⟩
  · exact .inl ⟨h3, h4⟩
  · refine .inr ⟨b, o, s, h3, fun hx => hs (fun hy => hx (by rw [hy, List.take_nil])), fun i hi => ?_⟩
    rw [List.getElem_take]
    exact h4 i (by rw [hlen] at hi; rw [List.length_drop]; omega)
end Go.Sb

namespace Go.Proofs.Ytpecbhimnpjkdaa
open Go.RowKit Go.Sb

theorem sub_l (w : World) (a : Option Addr) (n c l : Nat) (h : l ≤ n) : (Instr.sliceAt 22 (.slice a n c) (some (.int .i64 (l : Int))) none none).run Try.prog w = .ok (.slice (if c = l then a else a.map (·.add l)) (n - l) (c - l)) w := by
  have hl : (l : Int) ≤ n := by omega
  simp [go_sem, hl]

theorem sub_lh (w : World) (a : Option Addr) (n c l m : Nat) (h : l ≤ m) (hm : m ≤ c) : (Instr.sliceAt 22 (.slice a n c) (some (.int .i64 (l : Int))) (some (.int .i64 (m : Int))) none).run Try.prog w = .ok (.slice (if c = l then a else a.map (·.add l)) (m - l) (c - l)) w := by
  have hl : (l : Int) ≤ m := by omega
  have hl2 : (m : Int) ≤ c := by omega
  simp [go_sem, hl, hl2]

section
variable {w : World} {ops : Array Oper} {rest : List Oper} {o : Oper} {a : Act} {Q : Exit → Act → World → Prop}
/-- a slice of bytes, cut from a place on, at the operation -/
theorem wpList_cutl (hg : o.guard = none) (so lo : Operand) (hop : o.op = .slice 22 so (some lo) none none) (b : Option Addr) (n c l : Nat) (xs : List UInt8) (hs : a.eval so = .slice b n c) (hlo : a.eval lo = .int .i64 (l : Int)) (hb : RB w (.slice b n c) xs) (h : l ≤ n)
    (hK : ∀ b' c', RB w (.slice b' (xs.drop l).length c') (xs.drop l) → wpList Try.prog ops Q rest (a.put o.dst (.slice b' (xs.drop l).length c')) w) : wpList Try.prog ops Q (o :: rest) a w := by
  refine wpList_plain hg fun K' hK' => ?_
  have hrun := sub_l w b n c l h
  have hb2 := hb.cutl l h
  obtain ⟨a', c', he, h1, h2, h3⟩ := hb
  cases he
  unfold Oper.wp
  simp [execOp, hop, hs, hlo, hrun, Result.andThen]
  rw [← List.length_drop] at hb2 ⊢
  exact hK' _ _ (hK _ _ hb2)

theorem yieldsIf_cutl {S : World → Prop} (hw : Region.wanted o (yielded ops a.tmps) = true) (so lo : Operand) (hop : o.op = .slice 22 so (some lo) none none) (b : Option Addr) (n c l : Nat) (hs : a.eval so = .slice b n c) (hlo : a.eval lo = .int .i64 (l : Int)) (h : l ≤ n) :
    YieldsIf Try.prog ops S o (.slice (if c = l then b else b.map (·.add l)) (n - l) (c - l)) a :=
  .inl ⟨hw, fun w' _ => by
    have hrun := sub_l w' b n c l h
    unfold execOp
    simp [hop, hs, hlo, hrun, Result.andThen]⟩

theorem wpList_cutlh (hg : o.guard = none) (so lo hi : Operand) (hop : o.op = .slice 22 so (some lo) (some hi) none) (b : Option Addr) (n c l m q : Nat) (xs : List UInt8) (hs : a.eval so = .slice b n c) (hlo : a.eval lo = .int .i64 (l : Int)) (hhi : a.eval hi = .int .i64 (m : Int)) (hb : RB w (.slice b n c) xs) (h : l ≤ m) (hm : m ≤ n) (hq : m - l = q)
    (hK : ∀ b' c', RB w (.slice b' q c') ((xs.drop l).take q) → wpList Try.prog ops Q rest (a.put o.dst (.slice b' q c')) w) : wpList Try.prog ops Q (o :: rest) a w := by
  subst hq
  refine wpList_plain hg fun K' hK' => ?_
  have hb2 := hb.cutlh l m h hm
  obtain ⟨a', c', he, h1, h2, h3⟩ := hb
  cases he
  have hrun := sub_lh w b xs.length c l m h (by omega)
  unfold Oper.wp
  simp [execOp, hop, hs, hlo, hhi, hrun, Result.andThen]
  exact hK' _ _ (hK _ _ hb2)
theorem wpList_load_row_w {P : Program} (hw : Region.wanted o (yielded ops a.tmps) = true) (ty : TypeId) (x : Operand) (ho : o.op = .load ty x)
    (g : Nat) (hx : a.eval x = .pointer (some ⟨g, 0, none⟩)) (t : TypeId) (cs : Array Value) (fr : Nat × Nat) (d : TypeDesc) (hg : w.heap[g]? = some (.cells cs t fr))
    (hu : P.underlying ty = some d) (hd : (match d with | .struct _ | .array _ _ => true | _ => false) = true) (hi : (P.info? ty).map (·.size) = some cs.size)
    (h : wpList P ops Q rest (a.put o.dst (.agg cs)) w) : wpList P ops Q (o :: rest) a w :=
  wpList_step fun K hK => by rw [if_pos hw]; exact wp_load_row ty x ho g hx t cs fr d hg hu hd hi (hK _ _ h)

theorem rb_head {b : Option Addr} {n c : Nat} {y : UInt8} {u : List UInt8} (h : RB w (.slice b n c) (y :: u)) : ∃ bt ot, b = some ⟨bt, ot, none⟩ ∧ w.cell? ⟨bt, ot, none⟩ = some (.int .u8 (y.toNat : Int)) := by
  obtain ⟨a', c', he, h1, h2, h3⟩ := h
  injection he with e1 e2 e3
  subst e1
  rcases h3 with ⟨rfl, rfl⟩ | ⟨bt, ot, s, rfl, hs, h4⟩
  · simp at h1
  · obtain rfl := hs (by simp)
    have := h4 0 (by simp)
    exact ⟨bt, ot, rfl, this⟩

theorem conv_rb {v : Value} {xs : List UInt8} (h : RB w v xs) : (convert 22 9 v).run Try.prog w = .ok (.string ⟨xs.toArray⟩) w := by
  obtain ⟨a, c, rfl, h1, h2, h3⟩ := h
  cases xs with
  | nil =>
    have hd : Try.prog.underlying 9 = some .string := Try.underlying9
    rw [List.length_nil, run_convert_bytes_string w 22 9 5 _ 0 c Try.underlying22 Try.underlying5 hd]
    cases a <;> simp [Conv.bytesToString, loadCells]
    all_goals rfl
  | cons x xs =>
    rcases h3 with ⟨rfl, rfl⟩ | ⟨b, o, s, rfl, hs, h4⟩
    · simp at h1
    · obtain rfl := hs (by simp)
      refine run_convert_bytes_back w 22 9 5 ⟨b, o, none⟩ c (x :: xs) Try.underlying22 Try.underlying5 Try.underlying9 (fun j hj => ?_)
      rw [Addr.add_mid]
      exact h4 j hj

theorem wpList_conv (hg : o.guard = none) (so : Operand) (hop : o.op = .convert 22 9 so) (v : Value) (xs : List UInt8) (hs : a.eval so = v) (hb : RB w v xs)
    (hK : wpList Try.prog ops Q rest (a.put o.dst (.string ⟨xs.toArray⟩)) w) : wpList Try.prog ops Q (o :: rest) a w := by
  refine wpList_plain hg fun K' hK' => ?_
  have hrun := conv_rb hb
  unfold Oper.wp
  simp [execOp, hop, hs, hrun, Result.andThen]
  exact hK' _ _ hK
end

structure Got where
  k : Int
  ns : List Int
  tube : ByteArray
  body : List UInt8
  err : Int

def noGot : Got := ⟨0, List.replicate 16 0, ⟨#[]⟩, [], 102⟩

def numAt (xs : List UInt8) (j : Nat) : Nat := un ((xs.drop (8 * j)).take 8)
def numsOk (xs : List UInt8) (n : Nat) : Bool := (List.range n).all fun j => decide (numAt xs j ≤ 4611686018427387903)
def putAt (l : List Nat) (xs : List UInt8) : Nat → List Int
  | 0 => List.replicate 16 0
  | j + 1 => (putAt l xs j).set (l.getD j 0) (numAt xs j)
def finG (k : Int) (ns : List Int) (tube : ByteArray) (body : List UInt8) : Got := if checkE k ns tube body.length = 0 then ⟨k, ns, tube, body, 0⟩ else noGot
def textG (k : Int) (ns : List Int) (t : List UInt8) : Got :=
  match t with
  | [] => noGot
  | z :: u => if u.length < z.toNat then noGot else finG k ns ⟨(u.take z.toNat).toArray⟩ (u.drop z.toNat)
def restG (k : Int) (ns : List Int) (t : List UInt8) : Got := if k = 2 then textG k ns t else if t = [] then finG k ns ⟨#[]⟩ [] else noGot
def kindG (k : Int) (r : List UInt8) : Got :=
  if ¬ Kind k then noGot else if r.length < 8 * (ofList k).length then noGot else if numsOk r (ofList k).length = false then noGot
  else restG k (putAt (ofList k) r (ofList k).length) (r.drop (8 * (ofList k).length))
def getG (xs : List UInt8) : Got :=
  match xs with
  | [] => noGot
  | c :: r => kindG (c.toNat : Int) r

def GetPost (g : Got) (w : World) (e : Ending) (w' : World) : Prop :=
  ∃ v, e = .returned (.tuple #[recV g.k g.ns g.tube v, .int .i64 g.err]) ∧ OB 5 (fun x => w.heap.size ≤ x) w' v g.body ∧ Fr (fun _ => False) w w'

theorem putAt_length (l : List Nat) (xs : List UInt8) (j : Nat) : (putAt l xs j).length = 16 := by
  induction j with
  | zero => simp [putAt]
  | succ j ih => simp [putAt, ih]

end Go.Proofs.Ytpecbhimnpjkdaa
