/- A heap of the program's and the document's: what each call does to the two lists; plain mathematics. -/
import Derived.Test.YtikimfdijkejpaaHpRef6
namespace Go.Proofs.Ytikimfdijkejpaa.HT
open Go.RowKit Go.Sb

abbrev En := Int × (Int × Int)

/-- The two lists say the same. -/
structure Sim (key : Int × Int → Int) (g : Int) (L M : List En) : Prop where
  ok : HOK key L
  perm : L.Perm M
  asc : M.Pairwise (fun a b => a.1 < b.1)
  le : ∀ a ∈ M, a.1 ≤ g
  g0 : 0 ≤ g
  len : (M.length : Int) ≤ g

section
variable {key : Int × Int → Int} {g : Int} {L M : List En}

theorem Sim.nil (key : Int × Int → Int) : Sim key 0 [] [] := ⟨HOK.nil, List.Perm.refl _, List.Pairwise.nil, by simp, Int.le_refl 0, by simp⟩

theorem asc_nodup : ∀ {M : List En}, M.Pairwise (fun a b => a.1 < b.1) → (M.map Prod.fst).Nodup
  | [], _ => by simp
  | a :: M, h => by
    rw [List.pairwise_cons] at h
    rw [List.map_cons, List.nodup_cons]
    refine ⟨fun hm => ?_, asc_nodup h.2⟩
    obtain ⟨b, hb, he⟩ := List.mem_map.1 hm
    have := h.1 b hb
    omega

theorem Sim.nodupM (h : Sim key g L M) : (M.map Prod.fst).Nodup := asc_nodup h.asc
theorem Sim.nodupL (h : Sim key g L M) : (L.map Prod.fst).Nodup := (h.perm.map Prod.fst).nodup_iff.2 h.nodupM
theorem Sim.lenL (h : Sim key g L M) : L.length = M.length := h.perm.length_eq
theorem Sim.leL (h : Sim key g L M) : ∀ a ∈ L, a.1 ≤ g := fun a ha => h.le a (h.perm.mem_iff.1 ha)

theorem Sim.push (h : Sim key g L M) (x : Int × Int) : Sim key (g + 1) (pushL key L (g + 1, x)) (M ++ [(g + 1, x)]) := by
  refine ⟨pushL_ok _ h.ok, (pushL_perm _ _).trans (h.perm.append_right _), ?_, ?_, by have := h.g0; omega, by have := h.len; simp; omega⟩
  · rw [List.pairwise_append]
    refine ⟨h.asc, List.pairwise_singleton _ _, fun a ha b hb => ?_⟩
    rw [List.mem_singleton] at hb
    subst hb
    have := h.le a ha
    show a.1 < g + 1
    omega
  · intro a ha
    rcases List.mem_append.1 ha with ha | ha
    · have := h.le a ha; omega
    · rw [List.mem_singleton] at ha
      subst ha
      exact Int.le_refl _

theorem same_of_fst {M : List En} (hn : (M.map Prod.fst).Nodup) {a b : En} (ha : a ∈ M) (hb : b ∈ M) (h : a.1 = b.1) : a = b := by
  induction M with
  | nil => cases ha
  | cons c M ih =>
    rw [List.map_cons, List.nodup_cons] at hn
    rcases List.mem_cons.1 ha with e1 | ha'
    · rcases List.mem_cons.1 hb with e2 | hb'
      · rw [e1, e2]
      · exact absurd (List.mem_map.2 ⟨b, hb', by rw [← h, e1]⟩) hn.1
    · rcases List.mem_cons.1 hb with e2 | hb'
      · exact absurd (List.mem_map.2 ⟨a, ha', by rw [h, e2]⟩) hn.1
      · exact ih hn.2 ha' hb'

/-- The first ones of the two are one. -/
theorem Sim.first (h : Sim key g L M) {a b : En} (ha : L[0]? = some a) {j : Nat} (hb : M[j]? = some b) (hm : ∀ c ∈ M, hle key b c) : a = b := by
  have ha1 : a ∈ M := h.perm.mem_iff.1 (List.mem_of_getElem? ha)
  have hb1 : b ∈ M := List.mem_of_getElem? hb
  have h1 := hm a ha1
  have h2 := h.ok.first ha b (h.perm.mem_iff.2 hb1)
  refine same_of_fst h.nodupM ha1 hb1 ?_
  unfold hle at h1 h2
  omega

theorem Sim.erase (h : Sim key g L M) {a : En} {i j : Nat} (hi : L[i]? = some a) (hj : M[j]? = some a) : Sim key g (takeL key L i) (M.eraseIdx j) := by
  refine ⟨takeL_ok i h.ok, List.Perm.cons_inv ((takeL_perm hi).trans (h.perm.trans (erase_perm hj).symm)), h.asc.sublist (List.eraseIdx_sublist _ _), fun b hb => h.le b ((List.eraseIdx_sublist _ _).subset hb), h.g0, ?_⟩
  have := h.len
  have := List.length_eraseIdx_le M j
  omega

theorem Sim.set (h : Sim key g L M) {t : Int} {x : Int × Int} (y : Int × Int) {i j : Nat} (hi : L[i]? = some (t, x)) (hj : M[j]? = some (t, x)) : Sim key g (settleL key (L.set i (t, y)) i) (M.set j (t, y)) := by
  have hil := (List.getElem?_eq_some_iff.1 hi).1
  have hp : (L.set i (t, y)).Perm (M.set j (t, y)) := by
    have h1 := set_perm L i (t, y) (t, x) hi
    have h2 := set_perm M j (t, y) (t, x) hj
    exact List.Perm.cons_inv (h1.trans ((h.perm.cons _).trans h2.symm))
  have hmap : (M.set j (t, y)).map Prod.fst = M.map Prod.fst := by
    rw [List.map_set]
    refine List.ext_getElem? (fun k => ?_)
    rw [List.getElem?_set]
    by_cases e : j = k
    · subst e
      rw [if_pos rfl, List.getElem?_map, hj, if_pos (by simpa using (List.getElem?_eq_some_iff.1 hj).1)]
      rfl
    · rw [if_neg e]
  refine ⟨changeL_ok i hil (t, y) h.ok, (settleL_perm _ _).trans hp, ?_, ?_, h.g0, by rw [List.length_set]; exact h.len⟩
  · have h1 : (M.map Prod.fst).Pairwise (· < ·) := List.pairwise_map.2 h.asc
    rw [← hmap] at h1
    exact List.pairwise_map.1 h1
  · intro a ha
    rcases List.mem_or_eq_of_mem_set ha with ha | rfl
    · exact h.le a ha
    · exact h.le (t, x) (List.mem_of_getElem? hj)

/-- a ticket that somebody has -/
theorem Sim.present (h : Sim key g L M) {t : Int} (ht : t ∈ M.map Prod.fst) : ∃ (us vs : List En) (x : Int × Int) (i : Nat), M = us ++ (t, x) :: vs ∧ (∀ p ∈ us, p.1 ≠ t) ∧ M[us.length]? = some (t, x) ∧ L[i]? = some (t, x) := by
  obtain ⟨⟨t', x⟩, hm, rfl⟩ := List.mem_map.1 ht
  obtain ⟨us, vs, hs⟩ := List.append_of_mem hm
  obtain ⟨i, hi⟩ := List.getElem?_of_mem (h.perm.mem_iff.2 hm)
  refine ⟨us, vs, x, i, hs, fun p hp e => ?_, by rw [hs, List.getElem?_append_right (Nat.le_refl _)]; simp, hi⟩
  have hk := h.nodupM
  rw [hs, List.map_append, List.map_cons, List.nodup_append] at hk
  exact hk.2.2 _ (List.mem_map_of_mem hp) t' (by simp) e

/-- one that nobody has -/
theorem Sim.absent (h : Sim key g L M) {t : Int} (ht : t ∉ M.map Prod.fst) : (∀ p ∈ L, p.1 ≠ t) ∧ ∀ p ∈ M, p.1 ≠ t :=
  ⟨fun _ hp e => ht (e ▸ List.mem_map_of_mem (h.perm.mem_iff.1 hp)), fun _ hp e => ht (e ▸ List.mem_map_of_mem hp)⟩

/-- the orders are one -/
theorem Sim.order (h : Sim key g L M) {S : List En} (hp : S.Perm M) (hs : S.Pairwise (hle key)) : (orderL key L).map Prod.fst = S.map Prod.fst := by
  rw [sorted_eq (((orderL_perm L).trans h.perm).trans hp.symm) (orderL_sorted h.ok) hs (((orderL_perm L).map Prod.fst).nodup_iff.2 h.nodupL)]
end

/-- A heap of the program's beside the document's. -/
structure Pr where
  way : Int
  bh : Nat
  bm : Nat
  lv : Value
  m : List (Int × Value)
  br : Nat
  rv : Value
  g : Int
  L : List En
  M : List En

def Pr.foot (p : Pr) : Nat → Prop := fun k => HT.foot p.bh p.bm p.lv k ∨ rfoot p.br p.rv k

structure PRep (w : World) (p : Pr) : Prop where
  hw : p.way = 0 ∨ p.way = 1 ∨ p.way = 2
  q : HRep 99 101 3 (foot p.bh p.bm p.lv) w p.bh (.func (.func (wFid p.way)) #[] #[]) p.g (p.L.map en) p.lv p.bm p.m
  r : RRp (rfoot p.br p.rv) w p.br p.way p.g p.rv p.M
  sim : Sim (wKey p.way) p.g p.L p.M

/-- what each block of a pair holds -/
theorem PRep.kind {w : World} {p : Pr} (h : PRep w p) {k : Nat} (hk : p.foot k) : (∃ m, HasMap w k m) ∨ ∃ cs T, w.heap[k]? = some (.cells cs T (0, 0)) ∧ (T = 99 ∨ T = 101 ∨ T = 104 ∨ T = 113) := by
  rcases hk with (rfl | rfl | hk) | hk
  · exact .inr ⟨_, 99, h.q.head, .inl rfl⟩
  · exact .inl ⟨_, h.q.map⟩
  · rcases h.q.list.2 with ⟨he, _⟩ | ⟨g, cap, cur, he, _, hg, _⟩
    · rw [he] at hk
      cases hk
    · rw [he] at hk
      simp only [Value.ownBlock, Option.some.injEq] at hk
      subst hk
      exact .inr ⟨_, 101, hg, .inr (.inl rfl)⟩
  · obtain ⟨cs, hc | hc⟩ := h.r.foot_cells hk
    · exact .inr ⟨_, 104, hc, .inr (.inr (.inl rfl))⟩
    · exact .inr ⟨_, 113, hc, .inr (.inr (.inr rfl))⟩

theorem PRep.lt {w : World} {p : Pr} (h : PRep w p) : ∀ k, p.foot k → k < w.heap.size := fun k hk => by
  rcases h.kind hk with ⟨m, hm⟩ | ⟨cs, T, hc, _⟩
  · exact hm.lt
  · exact lt_of_heap hc

theorem PRep.not {w : World} {p : Pr} (h : PRep w p) {b : Nat} {cs : Array Value} {T : TypeId} (hb : w.heap[b]? = some (.cells cs T (0, 0))) (h1 : T ≠ 99) (h2 : T ≠ 101) (h3 : T ≠ 104) (h4 : T ≠ 113) : ¬ p.foot b := fun hk => by
  rcases h.kind hk with ⟨m, hm⟩ | ⟨cs', T', hc, hT⟩
  · exact hm.ne hb rfl
  · rcases hT with rfl | rfl | rfl | rfl
    · exact ne_of_types hb hc h1 rfl
    · exact ne_of_types hb hc h2 rfl
    · exact ne_of_types hb hc h3 rfl
    · exact ne_of_types hb hc h4 rfl

theorem PRep.dj {w : World} {p : Pr} (h : PRep w p) : ∀ k, foot p.bh p.bm p.lv k → ¬ rfoot p.br p.rv k := fun k h1 h2 => by
  obtain ⟨cs, T, hc, hT⟩ : ∃ cs T, w.heap[k]? = some (.cells cs T (0, 0)) ∧ (T = 104 ∨ T = 113) := by
    obtain ⟨cs, hc | hc⟩ := h.r.foot_cells h2
    · exact ⟨cs, 104, hc, .inl rfl⟩
    · exact ⟨cs, 113, hc, .inr rfl⟩
  rcases h1 with rfl | rfl | h1
  · rcases hT with rfl | rfl
    · exact ne_of_types hc h.q.head (by decide) rfl
    · exact ne_of_types hc h.q.head (by decide) rfl
  · exact h.q.map.ne hc rfl
  · rcases hT with rfl | rfl
    · exact own_neT hc (by decide) h.q.list h1
    · exact own_neT hc (by decide) h.q.list h1

theorem PRep.of {w w' : World} {p : Pr} (h : PRep w p) (hk : ∀ k, p.foot k → w'.heap[k]? = w.heap[k]?) : PRep w' p :=
  ⟨h.hw, h.q.of (fun k _ h' => hk k (.inl h')), h.r.of (fun k _ h' => hk k (.inr h')), h.sim⟩

theorem PRep.fr {w w' : World} {p : Pr} {G : Nat → Prop} (h : PRep w p) (hf : Fr G w w') (hG : ∀ k, p.foot k → ¬ G k) : PRep w' p :=
  h.of (fun k hk => hf.block k (h.lt k hk) (hG k hk))

structure PTurn (w w' : World) (p p' : Pr) : Prop where
  rep : PRep w' p'
  bh : p'.bh = p.bh
  br : p'.br = p.br
  fr : Fr p.foot w w'
  fo : ∀ k, p'.foot k → p.foot k ∨ w.heap.size ≤ k

theorem PTurn.refl {w : World} {p : Pr} (h : PRep w p) : PTurn w w p p := ⟨h, rfl, rfl, Fr.refl _ _, fun _ h => .inl h⟩
theorem PTurn.none {a b c : World} {p q : Pr} (h : PTurn a b p q) (hf : Fr (fun _ => False) b c) : PTurn a c p q :=
  ⟨h.rep.fr hf (fun _ _ h => h), h.bh, h.br, h.fr.trans hf (fun _ _ h => h.elim), h.fo⟩
theorem PTurn.ahead {a b c : World} {p q : Pr} (hf : Fr (fun _ => False) a b) (h : PTurn b c p q) : PTurn a c p q :=
  ⟨h.rep, h.bh, h.br, (hf.mono (fun _ _ h => h.elim)).trans h.fr (fun _ _ h => h), fun k hk => (h.fo k hk).imp id (Nat.le_trans hf.size)⟩

/-- both have turned, the one behind the other; something may have been laid between -/
theorem PRep.turn {w a b c : World} {p : Pr} (h : PRep w p) {g' : Int} {L' M' : List En} {lv' rv' : Value} {m' : List (Int × Value)} (q1 : HRep 99 101 3 (ex (foot p.bh p.bm p.lv) w) a p.bh (.func (.func (wFid p.way)) #[] #[]) g' (L'.map en) lv' p.bm m') (f1 : Fr (foot p.bh p.bm p.lv) w a)
    (fab : Fr (fun _ => False) a b) (r2 : RRp (ex (rfoot p.br p.rv) b) c p.br p.way g' rv' M') (f2 : Fr (rfoot p.br p.rv) b c) (hs : Sim (wKey p.way) g' L' M') : ∃ p' : Pr, PTurn w c p p' ∧ p'.g = g' ∧ p'.M = M' := by
  have hq : ∀ k, foot p.bh p.bm lv' k → foot p.bh p.bm p.lv k ∨ w.heap.size ≤ k := fun k hk => foot_in q1 k hk
  have hr : ∀ k, rfoot p.br rv' k → rfoot p.br p.rv k ∨ w.heap.size ≤ k := fun k hk => (r2.foot_in k hk).imp id (Nat.le_trans (Nat.le_trans f1.size fab.size))
  refine ⟨⟨p.way, p.bh, p.bm, lv', m', p.br, rv', g', L', M'⟩, ⟨⟨h.hw, ((hrep_exact q1).fr fab (fun _ _ _ h => h)).fr f2 (fun k _ hk hk' => ?_), r2.exact, hs⟩, rfl, rfl, ((f1.mono (fun k _ hk => .inl hk)).trans fab (fun _ _ h => h.elim)).trans f2 (fun k _ hk => .inr hk), fun k hk => ?_⟩, rfl, rfl⟩
  · rcases hq k hk with hk | hk
    · exact h.dj k hk hk'
    · have := h.lt k (.inr hk')
      omega
  · rcases hk with hk | hk
    · exact (hq k hk).imp .inl id
    · exact (hr k hk).imp .inr id

end Go.Proofs.Ytikimfdijkejpaa.HT
