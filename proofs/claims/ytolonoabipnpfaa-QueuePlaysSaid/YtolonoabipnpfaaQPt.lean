/- QueuePlays: what a turn of a pair leaves, seen from a loop. -/
import Derived.Test.YtolonoabipnpfaaQWhole
namespace Go.Proofs.Ytolonoabipnpfaa
open Go.RowKit Go.Sb

theorem PRep.foot_map {w : World} {p : Pr} (h : PRep w p) {k : Nat} (hk : p.foot k) {o : Obj} (ho : w.heap[k]? = some o) (hc : o.isCells = false) : k = p.bm := by
  rcases hk with hk | hk
  · exact h.q.foot_map hk ho hc
  · obtain ⟨cs, hcs | hcs⟩ := h.r.foot_cells hk <;>
    · rw [hcs] at ho
      cases ho
      simp [Obj.isCells] at hc

theorem PRep.bm_lt {w : World} {p : Pr} (h : PRep w p) : p.bm < w.heap.size := h.q.places.lt

theorem PRep.turned {w w' : World} {p : Pr} (h : PRep w p) {B : Nat} {row : Option Nat} (hg : w.grownBy w' row) (hr : ∀ r, row = some r → B ≤ r ∧ ∃ o : Obj, w.heap[r]? = some o ∧ o.isCells = false) (hB : p.bm < B) : PRep w' p := by
  refine h.of (fun k hk => hg.block k (h.lt k hk) (fun e => ?_))
  obtain ⟨h1, o, ho, hc⟩ := hr _ e.symm
  have := h.foot_map hk ho hc
  omega

theorem PTurn.keepsFrom {w w' : World} {p p' : Pr} (h : PTurn w w' p p') (h0 : PRep w p) {B : Nat} (hB : p.bm < B) : KeepsFrom B w w' :=
  ⟨h.fr.size, fun k o hk ho hc => h.fr.get ho (fun hft => by
    have := h0.foot_map hft ho hc
    omega)⟩

theorem PTurn.keepBuf {w w' : World} {p p' : Pr} (h : PTurn w w' p p') (h0 : PRep w p) : KeepBuf 96 w w' :=
  KeepBuf.of_fr h.fr (fun k cs hk ho => by
    rcases hk with hk | hk
    · exact h0.q.foot_small (by decide) hk ho
    · obtain ⟨cs', hc | hc⟩ := h0.r.foot_cells hk
      · exact absurd rfl (ne_of_types ho hc (by decide))
      · exact absurd rfl (ne_of_types ho hc (by decide)))

/-- p has become p', and some blocks of G have turned. -/
structure PT (G : Nat → Prop) (w w' : World) (p p' : Pr) : Prop where
  rep : PRep w' p'
  bq : p'.bq = p.bq
  bm : p'.bm = p.bm
  br : p'.br = p.br
  fr : Fr (fun k => p.foot k ∨ G k) w w'
  fo : ∀ k, p'.foot k → p.foot k ∨ w.heap.size ≤ k

theorem PT.refl {G : Nat → Prop} {w : World} {p : Pr} (h : PRep w p) : PT G w w p p := ⟨h, rfl, rfl, rfl, Fr.refl _ _, fun _ h => .inl h⟩
theorem PT.turn {G : Nat → Prop} {a b c : World} {p q r : Pr} (h : PT G a b p q) (k : PTurn b c q r) : PT G a c p r :=
  ⟨k.rep, k.bq.trans h.bq, k.bm.trans h.bm, k.br.trans h.br, h.fr.trans k.fr (fun i hi hq => .inl ((h.fo i hq).elim id (fun h' => by omega))),
    fun i hi => (k.fo i hi).elim (fun h' => h.fo i h') (fun h' => .inr (Nat.le_trans h.fr.size h'))⟩
theorem PT.set {G H : Nat → Prop} {a b c : World} {p q : Pr} (h : PT G a b p q) (hf : Fr H b c) (h1 : ∀ k, H k → G k ∨ a.heap.size ≤ k) (h2 : ∀ k, q.foot k → ¬ H k) : PT G a c p q :=
  ⟨h.rep.fr hf h2, h.bq, h.bm, h.br, h.fr.trans hf (fun i hi hk => (h1 i hk).elim .inr (fun h' => by omega)), h.fo⟩
theorem PT.grown {G : Nat → Prop} {a b c : World} {p q : Pr} (h : PT G a b p q) {row : Option Nat} (hg : b.grownBy c row) (hr : ∀ r, row = some r → a.heap.size ≤ r ∧ ∃ o : Obj, b.heap[r]? = some o ∧ o.isCells = false) (hB : p.bm < a.heap.size) : PT G a c p q :=
  ⟨h.rep.turned hg hr (by rw [h.bm]; exact hB), h.bq, h.bm, h.br, h.fr.grown hg (fun k e => .inr (hr k e).1), h.fo⟩
theorem PT.toTurn {G : Nat → Prop} {a b c : World} {p q : Pr} (hf : Fr (fun _ => False) a b) (h : PT G b c p q) (hG : ∀ k, G k → a.heap.size ≤ k) : PTurn a c p q :=
  ⟨h.rep, h.bq, h.bm, h.br, (hf.mono (fun _ _ h => h.elim)).trans h.fr (fun k hk h => h.elim id (fun h' => by have := hG k h'; omega)), fun k hk => (h.fo k hk).imp id (Nat.le_trans hf.size)⟩

/-- both have been joined -/
theorem PRep.joined {w w1 w2 : World} {p : Pr} (h : PRep w p) {x : Int} {e1 : Ending} (h1 : JoinPost 93 96 (Sb.foot p.bq p.bm p.l) w p.bq p.g p.l p.bm (.int .i64 x) e1 w1)
    (h2 : (∃ tv' sv', RRep (ex (rfoot p.br p.tv p.sv) w1) w2 p.br tv' sv' (p.g + 1) (p.xs ++ [(p.g + 1, x)])) ∧ Fr (rfoot p.br p.tv p.sv) w1 w2) :
    ∃ p' : Pr, PTurn w w2 p p' ∧ p'.g = p.g + 1 ∧ p'.xs = p.xs ++ [(p.g + 1, x)] := by
  obtain ⟨_, ⟨b, _, q1⟩, f1⟩ := h1
  obtain ⟨⟨tv', sv', r2⟩, f2⟩ := h2
  refine h.turn q1 f1 r2 f2 ?_ (by have := h.g0; omega) ?_ ?_
  · rw [List.map_append, List.map_append, h.same]; rfl
  · intro n hn
    rcases List.mem_append.1 hn with hn | hn
    · have := h.le n hn; omega
    · simp only [List.mem_singleton] at hn
      subst hn
      exact Int.le_refl _
  · have := h.len
    simp
    exact_mod_cast this

/-- Steps of a round: from W to W', where the pair stands as p' now. -/
structure RS (G : Nat → Prop) (w4 W W' : World) (p p' : Pr) : Prop where
  pt : PT G w4 W' p p'
  kf : KeepsFrom w4.heap.size W W'
  kb : KeepBuf 96 W W'
  kg : ∀ k, G k → W'.heap[k]? = W.heap[k]?

theorem RS.refl {G : Nat → Prop} {w4 W : World} {p p' : Pr} (h : PT G w4 W p p') : RS G w4 W W p p' := ⟨h, ⟨Nat.le_refl _, fun _ _ _ h _ => h⟩, KeepBuf.refl _ _, fun _ _ => rfl⟩
theorem PT.not {G : Nat → Prop} {w4 W : World} {p q : Pr} (h : PT G w4 W p q) (hG : ∀ k, G k → k < w4.heap.size ∧ ¬ p.foot k) : ∀ k, G k → ¬ q.foot k := fun k hk hq => by
  obtain ⟨h1, h2⟩ := hG k hk
  rcases h.fo k hq with h3 | h3
  · exact h2 h3
  · omega
theorem RS.turn {G : Nat → Prop} {w4 W a b : World} {p q r : Pr} (h : RS G w4 W a p q) (hB : p.bm < w4.heap.size) (hG : ∀ k, G k → k < w4.heap.size ∧ ¬ p.foot k) (k : PTurn a b q r) : RS G w4 W b p r :=
  ⟨h.pt.turn k, by
    have hk := k.keepsFrom h.pt.rep (B := w4.heap.size) (by rw [h.pt.bm]; exact hB)
    exact ⟨Nat.le_trans h.kf.size hk.size, fun i o h1 h2 h3 => hk.same i o h1 (h.kf.same i o h1 h2 h3) h3⟩, h.kb.trans (k.keepBuf h.pt.rep), fun i hi => by
    rw [← h.kg i hi]
    exact k.fr.block i (Nat.lt_of_lt_of_le (hG i hi).1 h.pt.fr.size) (h.pt.not hG i hi)⟩
theorem RS.drewN {G : Nat → Prop} {w4 W a : World} {p q : Pr} (h : RS G w4 W a p q) (n : Nat) : RS G w4 W (a.drewN n) p q :=
  ⟨h.pt.set ((Fr.refl (fun _ => False) a).drewN n) (fun _ h => h.elim) (fun _ _ h => h), ⟨h.kf.size, h.kf.same⟩, ⟨h.kb.1, h.kb.2⟩, h.kg⟩
theorem RS.drew {G : Nat → Prop} {w4 W a : World} {p q : Pr} (h : RS G w4 W a p q) : RS G w4 W a.drew p q := h.drewN 1
theorem RS.set {G : Nat → Prop} {w4 W a : World} {p q : Pr} (h : RS G w4 W a p q) (hG : ∀ k, G k → k < w4.heap.size ∧ ¬ p.foot k) {b : Nat} {cs : Array Value} {T : TypeId} (hb : W.heap[b]? = some (.cells cs T (0, 0))) (hT : T ≠ 96) (hg : G b) (v : Value) :
    PT G w4 (a.setCell ⟨b, 0, none⟩ v) p q ∧ KeepsFrom w4.heap.size W (a.setCell ⟨b, 0, none⟩ v) ∧ KeepBuf 96 W (a.setCell ⟨b, 0, none⟩ v) ∧ (a.setCell ⟨b, 0, none⟩ v).heap[b]? = some (.cells (cs.setIfInBounds 0 v) T (0, 0)) := by
  have hb' : a.heap[b]? = some (.cells cs T (0, 0)) := (h.kg b hg).trans hb
  have hf : Fr (fun k => k = b) a (a.setCell ⟨b, 0, none⟩ v) := (Fr.refl (fun k => k = b) a).setCell (p := ⟨b, 0, none⟩) (.inl rfl) v
  refine ⟨h.pt.set hf (fun k hk => .inl (hk ▸ hg)) (fun k hk e => h.pt.not hG b hg (e ▸ hk)), ⟨Nat.le_trans h.kf.size hf.size, fun i o h1 h2 h3 => hf.get (h.kf.same i o h1 h2 h3) (fun e => ?_)⟩, h.kb.trans (KeepBuf.of_fr hf (fun k cs' hk hc => by subst hk; exact absurd rfl (ne_of_types hb' hc hT))), heap_setCell_eq 0 v hb'⟩
  have := h.kf.same i o h1 h2 h3
  rw [e, hb'] at this
  cases this
  simp [Obj.isCells] at h3

theorem leave_rs {G : Nat → Prop} {w4 W a : World} {p q : Pr} (h : RS G w4 W a p q) (hB : p.bm < w4.heap.size) (hG : ∀ k, G k → k < w4.heap.size ∧ ¬ p.foot k) (t : Int) (hg : q.g ≤ 4398046511104) :
    Calls Try.prog 39 #[.agg #[.pointer (some ⟨p.bq, 0, none⟩), .pointer (some ⟨p.br, 0, none⟩)], .int .i64 t] a fun e b => e = .returned (.bool true) ∧ ∃ r, RS G w4 W b p r ∧ r.g = q.g := by
  have hl := leave_pair a q t h.pt.rep hg
  rw [h.pt.bq, h.pt.br] at hl
  refine hl.mono ?_
  rintro e b ⟨rfl, r, hr, hg', _, _⟩
  exact ⟨rfl, r, h.turn hB hG hr, hg'⟩

end Go.Proofs.Ytolonoabipnpfaa
