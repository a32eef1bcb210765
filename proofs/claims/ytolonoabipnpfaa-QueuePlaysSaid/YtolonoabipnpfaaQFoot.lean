/- The very blocks of a queue; what a round may do to a clone. -/
import Derived.Test.YtolonoabipnpfaaQIt
namespace Go.Sb
open Go.RowKit

def foot (bq bm : Nat) (l : List Nd) : Nat → Prop := fun k => k = bq ∨ k = bm ∨ ∃ n ∈ l, k = n.b

section
variable {TQ TP : TypeId} {F : Nat → Prop} {w w' : World} {bq bm : Nat} {g : Int} {l : List Nd}

theorem QRep.exact (h : QRep TQ TP F w bq g l bm) : QRep TQ TP (foot bq bm l) w bq g l bm :=
  ⟨h.head, h.places, h.chain, h.apart, .inl rfl, .inr (.inl rfl), fun n hn => .inr (.inr ⟨n, hn, rfl⟩), h.keys⟩

theorem QRep.foot_in (h : QRep TQ TP F w bq g l bm) : ∀ k, foot bq bm l k → F k := fun k hk => by
  rcases hk with rfl | rfl | ⟨n, hn, rfl⟩
  · exact h.fq
  · exact h.fm
  · exact h.fl n hn

theorem QRep.foot_lt (h : QRep TQ TP F w bq g l bm) : ∀ k, foot bq bm l k → k < w.heap.size := fun k hk => by
  rcases hk with rfl | rfl | ⟨n, hn, rfl⟩
  · exact lt_of_heap h.head
  · exact h.places.lt
  · exact h.nd_lt n hn

/-- A block of the queue that is no cells is its map. -/
theorem QRep.foot_map (h : QRep TQ TP F w bq g l bm) {k : Nat} (hk : foot bq bm l k) {o : Obj} (ho : w.heap[k]? = some o) (hc : o.isCells = false) : k = bm := by
  rcases hk with rfl | rfl | ⟨n, hn, rfl⟩
  · rw [h.head] at ho
    cases ho
    simp [Obj.isCells] at hc
  · rfl
  · obtain ⟨cs, hcs⟩ := chain_type l _ _ h.chain n hn
    rw [hcs] at ho
    cases ho
    simp [Obj.isCells] at hc

theorem chain_four {w : World} {TP : TypeId} : ∀ (l : List Nd) (p e : Option Addr), Chain w TP p l e → ∀ n ∈ l, ∃ cs, w.heap[n.b]? = some (.cells cs TP (0, 0)) ∧ cs.size = 4
  | [], _, _, _, _, hn => by cases hn
  | m :: l, _, e, h, n, hn => by
    rcases List.mem_cons.1 hn with rfl | hn
    · exact ⟨_, h.1, rfl⟩
    · exact chain_four l _ e h.2 n hn

/-- A block of the queue that holds places holds one. -/
theorem QRep.foot_small (h : QRep TQ TP F w bq g l bm) (hT : TQ ≠ TP) {k : Nat} (hk : foot bq bm l k) {cs : Array Value} (ho : w.heap[k]? = some (.cells cs TP (0, 0))) : cs.size ≤ 4 := by
  rcases hk with rfl | rfl | ⟨n, hn, rfl⟩
  · exact absurd rfl (ne_of_types h.head ho hT)
  · obtain ⟨o, hm, es, c, rfl, _⟩ := h.places
    rw [hm] at ho
    cases ho
  · obtain ⟨cs', hcs, hz⟩ := chain_four l _ _ h.chain n hn
    rw [hcs] at ho
    cases ho
    omega

/-- A block that holds cells of a third type is none of the queue's. -/
theorem QRep.foot_not (h : QRep TQ TP F w bq g l bm) {b : Nat} {cs : Array Value} {T : TypeId} {f : Nat × Nat} (hb : w.heap[b]? = some (.cells cs T f)) (h1 : T ≠ TQ) (h2 : T ≠ TP) : ¬ foot bq bm l b := by
  rintro (rfl | rfl | ⟨n, hn, rfl⟩)
  · exact ne_of_types hb h.head h1 rfl
  · exact h.places.ne hb rfl
  · obtain ⟨cs', hcs⟩ := chain_type l _ _ h.chain n hn
    exact ne_of_types hb hcs h2 rfl

/-- A change of a block of a third type leaves the queue. -/
theorem QRep.off (h : QRep TQ TP F w bq g l bm) {b : Nat} (hf : Fr (fun k => k = b) w w') {cs : Array Value} {T : TypeId} {f : Nat × Nat} (hb : w.heap[b]? = some (.cells cs T f)) (h1 : T ≠ TQ) (h2 : T ≠ TP) : QRep TQ TP F w' bq g l bm :=
  (h.exact.fr hf (fun _ _ hk e => h.foot_not hb h1 h2 (e ▸ hk))).mono (fun k _ hk => h.foot_in k hk)

theorem QRep.turned (h : QRep TQ TP F w bq g l bm) {B : Nat} {row : Option Nat} (hg : w.grownBy w' row) (hr : ∀ r, row = some r → B ≤ r ∧ ∃ o : Obj, w.heap[r]? = some o ∧ o.isCells = false) (hB : bm < B) : QRep TQ TP F w' bq g l bm := by
  refine (h.exact.of (fun k hk hf => hg.block k hk (fun e => ?_))).mono (fun k hk hf => h.foot_in k hf)
  obtain ⟨h1, o, ho, hc⟩ := hr _ e.symm
  have := h.foot_map hf ho hc
  omega

theorem QRep.given (h : QRep TQ TP F w bq g l bm) (hT : TQ ≠ TP) (g' : Int) : QRep TQ TP F (w.setCell ⟨bq, 3, none⟩ (.int .i64 g')) bq g' l bm :=
  ⟨by simpa using heap_setCell_eq 3 (.int .i64 g') h.head, h.places.setCell _ _, chain_of l _ _ h.chain (fun n hn => heap_setCell_ne _ _ _ _ (h.ne_nd hT n hn)), h.apart, h.fq, h.fm, h.fl, h.keys⟩

theorem QRep.keepsFrom (h : QRep TQ TP F w bq g l bm) (hf : Fr (foot bq bm l) w w') {B : Nat} (hB : bm < B) : KeepsFrom B w w' :=
  ⟨hf.size, fun k o hk ho hc => hf.get ho (fun hft => by
    have := h.foot_map hft ho hc
    omega)⟩

theorem QRep.keepBuf (h : QRep TQ TP F w bq g l bm) (hT : TQ ≠ TP) (hf : Fr (foot bq bm l) w w') : KeepBuf TP w w' := KeepBuf.of_fr hf (fun _ _ hk ho => h.foot_small hT hk ho)
end

/-- So far the clone at block bc holds what came; its address stands in a cell. -/
def ClSt (TQ TP TX : TypeId) (w0 : World) (bc bmc bO : Nat) (L : List (Int × Value)) (W : World) : Prop :=
  (∃ ls, QRep TQ TP (fun k => w0.heap.size ≤ k) W bc 0 ls bmc ∧ ls.map nv = L) ∧ W.heap[bO]? = some (.cells #[.pointer (some ⟨bc, 0, none⟩)] TX (0, 0)) ∧ Fr (fun _ => False) w0 W

theorem ClSt.own {α : Type} {TQ TP TX : TypeId} {w0 : World} {bc bmc bO B : Nat} (f : List α → List (Int × Value)) (hB : bmc < B) (hO : bO < B) (h0 : w0.heap.size ≤ B) : OwnFrom B (fun (pre : List α) W => ClSt TQ TP TX w0 bc bmc bO (f pre) W) := by
  intro s A C row ⟨⟨ls, h1, h2⟩, h3, h4⟩ hg hr
  exact ⟨⟨ls, h1.turned hg hr hB, h2⟩, (hg.block bO (lt_of_heap h3) (fun e => by have := (hr _ e.symm).1; omega)).trans h3, h4.grown hg (fun k e => .inr (Nat.le_trans h0 (hr k e).1))⟩

theorem nx_keys {α : Type} {f : α → Int × Value} {pre xs : List α} {x : α} (h : pre ++ [x] <+: xs) (hn : ((xs.map f).map Prod.fst).Nodup) : (f x).1 ∉ (pre.map f).map Prod.fst := by
  obtain ⟨r, rfl⟩ := h
  rw [List.map_append, List.map_append, List.map_append, List.map_append, List.nodup_append] at hn
  have h1 := hn.1
  rw [List.nodup_append] at h1
  intro hin
  exact h1.2.2 _ hin _ (by simp) rfl

end Go.Sb
