/- HeapScript: some heaps side by side, the lists that were handed out: what the desk holds. -/
import Derived.Test.YtikimfdijkejpaaHpSim
import Derived.Test.YtikimfdijkejpaaHpWrite
namespace Go.Proofs.Ytikimfdijkejpaa.HT
open Go.RowKit Go.Sb

def key (p : Pr) : Nat × Nat := (p.bh, p.br)

/-- All pairs that were ever laid: each alike, no two of a block. -/
structure Bank (w0 w : World) (P : List Pr) (N : Int) : Prop where
  rep : ∀ (i : Nat) p, P[i]? = some p → PRep w p
  le : ∀ (i : Nat) p, P[i]? = some p → p.g ≤ N
  ge : ∀ (i : Nat) p, P[i]? = some p → ∀ k, p.foot k → w0.heap.size ≤ k
  dj : ∀ (i j : Nat) p q, P[i]? = some p → P[j]? = some q → i ≠ j → ∀ k, p.foot k → ¬ q.foot k

theorem Bank.nil (w0 w : World) (N : Int) : Bank w0 w [] N := ⟨by simp, by simp, by simp, by simp⟩

theorem Bank.fr {w0 w w' : World} {P : List Pr} {N N' : Int} {G : Nat → Prop} (h : Bank w0 w P N) (hf : Fr G w w') (hG : ∀ (i : Nat) p, P[i]? = some p → ∀ k, p.foot k → ¬ G k) (hN : N ≤ N') : Bank w0 w' P N' :=
  ⟨fun i p hi => (h.rep i p hi).fr hf (hG i p hi), fun i p hi => Int.le_trans (h.le i p hi) hN, h.ge, h.dj⟩

theorem Bank.turn {w0 w w' : World} {P : List Pr} {N N' : Int} {i : Nat} {p p' : Pr} (h : Bank w0 w P N) (hi : P[i]? = some p) (ht : PTurn w w' p p') (hg : p'.g ≤ N') (hN : N ≤ N') (h0 : w0.heap.size ≤ w.heap.size) : Bank w0 w' (P.set i p') N' := by
  have hil := (List.getElem?_eq_some_iff.1 hi).1
  have hget : ∀ j q, (P.set i p')[j]? = some q → (j = i ∧ q = p') ∨ (j ≠ i ∧ P[j]? = some q) := fun j q hq => by
    rw [List.getElem?_set] at hq
    by_cases e : i = j
    · subst e
      rw [if_pos rfl, if_pos hil] at hq
      exact .inl ⟨rfl, (Option.some.inj hq).symm⟩
    · rw [if_neg e] at hq
      exact .inr ⟨fun h => e h.symm, hq⟩
  have hnew : ∀ j q, j ≠ i → P[j]? = some q → ∀ k, q.foot k → ¬ p'.foot k := fun j q hj hq k hk hk' => by
    rcases ht.fo k hk' with h1 | h1
    · exact h.dj j i q p hq hi hj k hk h1
    · have := (h.rep j q hq).lt k hk
      omega
  refine ⟨fun j q hq => ?_, fun j q hq => ?_, fun j q hq => ?_, fun j l q r hq hr hjl k hk hk' => ?_⟩
  · rcases hget j q hq with ⟨rfl, rfl⟩ | ⟨hj, hq'⟩
    · exact ht.rep
    · exact (h.rep j q hq').fr ht.fr (fun k hk hk' => h.dj j i q p hq' hi hj k hk hk')
  · rcases hget j q hq with ⟨rfl, rfl⟩ | ⟨hj, hq'⟩
    · exact hg
    · exact Int.le_trans (h.le j q hq') hN
  · rcases hget j q hq with ⟨rfl, rfl⟩ | ⟨hj, hq'⟩
    · intro k hk
      rcases ht.fo k hk with h1 | h1
      · exact h.ge j p hi k h1
      · omega
    · exact h.ge j q hq'
  · rcases hget j q hq with ⟨rfl, rfl⟩ | ⟨hj, hq'⟩
    · rcases hget l r hr with ⟨rfl, rfl⟩ | ⟨hl, hr'⟩
      · exact hjl rfl
      · exact hnew l r hl hr' k hk' hk
    · rcases hget l r hr with ⟨rfl, rfl⟩ | ⟨hl, hr'⟩
      · exact hnew j q hj hq' k hk hk'
      · exact h.dj j l q r hq' hr' hjl k hk hk'

/-- one pair more -/
theorem Bank.add {w0 w w' : World} {P : List Pr} {N : Int} {p : Pr} (h : Bank w0 w P N) (hf : Fr (fun _ => False) w w') (hp : PRep w' p) (hg : p.g ≤ N) (hn : ∀ k, p.foot k → w.heap.size ≤ k) (h0 : w0.heap.size ≤ w.heap.size) : Bank w0 w' (P ++ [p]) N := by
  have hget : ∀ (j : Nat) q, (P ++ [p])[j]? = some q → P[j]? = some q ∨ (j = P.length ∧ q = p) := fun j q hq => by
    rw [List.getElem?_append] at hq
    split at hq
    · exact .inl hq
    · rw [List.getElem?_singleton] at hq
      split at hq
      · exact .inr ⟨by omega, (Option.some.inj hq).symm⟩
      · cases hq
  refine ⟨fun j q hq => ?_, fun j q hq => ?_, fun j q hq => ?_, fun j l q r hq hr hjl k hk hk' => ?_⟩
  · rcases hget j q hq with hq' | ⟨rfl, rfl⟩
    · exact (h.rep j q hq').fr hf (fun _ _ h => h)
    · exact hp
  · rcases hget j q hq with hq' | ⟨rfl, rfl⟩
    · exact h.le j q hq'
    · exact hg
  · rcases hget j q hq with hq' | ⟨rfl, rfl⟩
    · exact h.ge j q hq'
    · intro k hk
      exact Nat.le_trans h0 (hn k hk)
  · rcases hget j q hq with hq' | ⟨rfl, rfl⟩
    · rcases hget l r hr with hr' | ⟨rfl, rfl⟩
      · exact h.dj j l q r hq' hr' hjl k hk hk'
      · have := (h.rep j q hq').lt k hk
        have := hn k hk'
        omega
    · rcases hget l r hr with hr' | ⟨rfl, rfl⟩
      · have := (h.rep l r hr').lt k hk'
        have := hn k hk
        omega
      · exact hjl rfl

theorem key_set {P : List Pr} {i : Nat} {p p' : Pr} (hi : P[i]? = some p) (h1 : p'.bh = p.bh) (h2 : p'.br = p.br) : (P.set i p').map key = P.map key := by
  have hil := (List.getElem?_eq_some_iff.1 hi).1
  rw [List.map_set, show key p' = key p by simp [key, h1, h2]]
  refine List.ext_getElem? (fun j => ?_)
  rw [List.getElem?_set]
  by_cases e : i = j
  · subst e
    rw [if_pos rfl, if_pos (by simpa using hil), List.getElem?_map, hi]
    rfl
  · rw [if_neg e]

theorem key_at {P : List Pr} {x : Nat × Nat} (h : x ∈ P.map key) : ∃ (i : Nat) (p : Pr), P[i]? = some p ∧ p.bh = x.1 ∧ p.br = x.2 := by
  obtain ⟨p, hp, rfl⟩ := List.mem_map.1 h
  obtain ⟨i, hi⟩ := List.getElem?_of_mem hp
  exact ⟨i, p, hi, rfl, rfl⟩

def pa (x : Nat × Nat) : Value := .pointer (some ⟨x.1, 0, none⟩)
def pb (x : Nat × Nat) : Value := .pointer (some ⟨x.2, 0, none⟩)

/-- just the blocks of the lists that were handed out -/
def bk (bd : Nat) (vo vw : Value) (E : List Ent) : Nat → Prop := fun k => HRows.at bd vo vw k ∨ ∃ (j : Nat) (e : Ent), E[j]? = some e ∧ (e.out.ownBlock = some k ∨ e.want.ownBlock = some k)

section
variable {F G : Nat → Prop} {w w' : World} {A : Nat → Prop} {bd : Nat} {vo vw : Value} {rest : List Value × List Value} {E : List Ent}

theorem own_exact {T : TypeId} {z n : Nat} {v : Value} {xs : List Value} (h : Own T z F w v n xs) (hG : ∀ k, v.ownBlock = some k → G k) : Own T z G w v n xs := by
  obtain ⟨h1, h2⟩ := h
  refine ⟨h1, h2.imp id ?_⟩
  rintro ⟨g, cap, cur, rfl, _, r⟩
  exact ⟨g, cap, cur, rfl, hG g rfl, r⟩

theorem held_to (h : Held 71 22 3 F w A bd vo vw rest E) (hG : ∀ k, bk bd vo vw E k → G k) : Held 71 22 3 G w A bd vo vw rest E := by
  have hb : ∀ v, Blk 3 F w v → (∀ k, v.ownBlock = some k → G k) → Blk 3 G w v := fun v hv hg k hk => ⟨hg k hk, (hv k hk).2⟩
  refine ⟨⟨h.rows.head, hG _ (.inl (.inl rfl)), own_exact h.rows.outs (fun k hk => hG k (.inl (.inr (.inl hk)))), own_exact h.rows.wants (fun k hk => hG k (.inl (.inr (.inr hk)))), h.rows.apart⟩, ⟨fun j e he => ?_, fun j e hj he => ?_, h.pile.apart⟩⟩
  · obtain ⟨h1, h2⟩ := h.pile.rd j e he
    exact ⟨⟨h1.1, hb _ h1.2 (fun k hk => hG k (.inr ⟨j, e, he, .inl hk⟩))⟩, ⟨h2.1, hb _ h2.2 (fun k hk => hG k (.inr ⟨j, e, he, .inr hk⟩))⟩⟩
  · obtain ⟨h1, h2, h3⟩ := h.pile.act j e hj he
    exact ⟨own_exact h1 (fun k hk => hG k (.inr ⟨j, e, he, .inl hk⟩)), own_exact h2 (fun k hk => hG k (.inr ⟨j, e, he, .inr hk⟩)), h3⟩

theorem bk_in (h : Held 71 22 3 F w A bd vo vw rest E) : ∀ k, bk bd vo vw E k → F k := by
  rintro k ((rfl | hk | hk) | ⟨j, e, he, hk | hk⟩)
  · exact h.rows.mine
  · exact (h.rows.outs.block k hk).1
  · exact (h.rows.wants.block k hk).1
  · exact ((h.pile.rd j e he).1.2 k hk).1
  · exact ((h.pile.rd j e he).2.2 k hk).1

theorem own_kind {T : TypeId} {z n : Nat} {v : Value} {xs : List Value} (h : Own T z F w v n xs) {k : Nat} (hk : v.ownBlock = some k) : ∃ cs, w.heap[k]? = some (.cells cs T (0, 0)) := by
  rcases h.2 with ⟨rfl, _⟩ | ⟨g, cap, cur, rfl, _, hg, _⟩
  · cases hk
  · simp only [Value.ownBlock, Option.some.injEq] at hk
    subst hk
    exact ⟨_, hg⟩

theorem bk_kind (h : Held 71 22 3 F w A bd vo vw rest E) : ∀ k, bk bd vo vw E k → ∃ cs T, w.heap[k]? = some (.cells cs T (0, 0)) ∧ (T = 71 ∨ T = 22 ∨ T = 3) := by
  rintro k ((rfl | hk | hk) | ⟨j, e, he, hk | hk⟩)
  · exact ⟨_, 71, h.rows.head, .inl rfl⟩
  · obtain ⟨cs, hc⟩ := own_kind h.rows.outs hk
    exact ⟨cs, 22, hc, .inr (.inl rfl)⟩
  · obtain ⟨cs, hc⟩ := own_kind h.rows.wants hk
    exact ⟨cs, 22, hc, .inr (.inl rfl)⟩
  · obtain ⟨cs, hc⟩ := ((h.pile.rd j e he).1.2 k hk).2
    exact ⟨cs, 3, hc, .inr (.inr rfl)⟩
  · obtain ⟨cs, hc⟩ := ((h.pile.rd j e he).2.2 k hk).2
    exact ⟨cs, 3, hc, .inr (.inr rfl)⟩
end

structure Desk (w0 w : World) (bd : Nat) (P : List Pr) (N : Int) (av bv vo vw : Value) (ks : List (Nat × Nat)) (E : List Ent) (fr : Nat) : Prop where
  bank : Bank w0 w P N
  held : Held 71 22 3 (bk bd vo vw E) w (fun j => fr ≤ j) bd vo vw ([av, bv], [.int .i64 (fr : Int)]) E
  ge : ∀ k, bk bd vo vw E k → w0.heap.size ≤ k
  al : Own 49 1 (fun k => w0.heap.size ≤ k) w av ks.length (ks.map pa)
  bl : Own 73 1 (fun k => w0.heap.size ≤ k) w bv ks.length (ks.map pb)
  ll : ks.length ≤ 4
  ks_in : ∀ x ∈ ks, x ∈ P.map key
  frm : Fr (fun _ => False) w0 w
  lim : LimF 4398046511104 fr E
  fle : fr ≤ E.length
  pot : (2 * E.length : Int) ≤ fr + 2 * N

section
variable {w0 w w' : World} {bd : Nat} {P : List Pr} {N N' : Int} {av bv vo vw : Value} {ks : List (Nat × Nat)} {E : List Ent} {fr : Nat}

theorem Desk.stay (h : Desk w0 w bd P N av bv vo vw ks E fr) (hf : Fr (fun _ => False) w w') (hN : N ≤ N') : Desk w0 w' bd P N' av bv vo vw ks E fr :=
  ⟨h.bank.fr hf (fun _ _ _ _ _ h => h) hN, h.held.none hf, h.ge, h.al.fr hf (fun _ _ _ h => h), h.bl.fr hf (fun _ _ _ h => h), h.ll, h.ks_in, h.frm.trans hf (fun _ _ h => h), h.lim, h.fle, by have := h.pot; omega⟩

/-- what a pair's turn leaves alone -/
theorem Desk.turn (h : Desk w0 w bd P N av bv vo vw ks E fr) {i : Nat} {p p' : Pr} (hi : P[i]? = some p) (ht : PTurn w w' p p') (hg : p'.g ≤ N') (hN : N ≤ N') : Desk w0 w' bd (P.set i p') N' av bv vo vw ks E fr := by
  have hp := h.bank.rep i p hi
  refine ⟨h.bank.turn hi ht hg hN h.frm.size, h.held.fr ht.fr (fun k hk hk' => ?_), h.ge, h.al.of (fun k hk hb => ?_), h.bl.of (fun k hk hb => ?_), h.ll, ?_, h.frm.trans ht.fr (fun k hk hp => by have := h.bank.ge i p hi k hp; omega), h.lim, h.fle, by have := h.pot; omega⟩
  · obtain ⟨cs, T, hc, hT⟩ := bk_kind h.held k hk
    rcases hT with rfl | rfl | rfl <;> exact hp.not hc (by decide) (by decide) (by decide) (by decide) hk'
  · obtain ⟨cs, hc⟩ := own_kind h.al hb
    exact ht.fr.block k hk (hp.not hc (by decide) (by decide) (by decide) (by decide))
  · obtain ⟨cs, hc⟩ := own_kind h.bl hb
    exact ht.fr.block k hk (hp.not hc (by decide) (by decide) (by decide) (by decide))
  · intro x hx
    rw [key_set hi ht.bh ht.br]
    exact h.ks_in x hx

/-- the lists that were handed out have turned -/
theorem Desk.book (h : Desk w0 w bd P N av bv vo vw ks E fr) {a b : World} (ha : Fr (fun _ => False) w a) (hf : Fr (bk bd vo vw E) a b) {vo' vw' : Value} {E' : List Ent} {fr' : Nat} {F : Nat → Prop}
    (hh : Held 71 22 3 F b (fun j => fr' ≤ j) bd vo' vw' ([av, bv], [.int .i64 (fr' : Int)]) E') (hF : ∀ k, F k → bk bd vo vw E k ∨ w0.heap.size ≤ k) (hl : LimF 4398046511104 fr' E') (hfl : fr' ≤ E'.length) (hp : (2 * E'.length : Int) ≤ fr' + 2 * N') (hN : N ≤ N') : Desk w0 b bd P N' av bv vo' vw' ks E' fr' := by
  have H := h.stay ha (Int.le_refl N)
  have ne : ∀ {T : TypeId} {k : Nat} {cs : Array Value}, a.heap[k]? = some (.cells cs T (0, 0)) → T ≠ 71 → T ≠ 22 → T ≠ 3 → ¬ bk bd vo vw E k := fun hc h1 h2 h3 hk => by
    obtain ⟨cs', T', hc', hT⟩ := bk_kind H.held _ hk
    rcases hT with rfl | rfl | rfl
    · exact ne_of_types hc hc' h1 rfl
    · exact ne_of_types hc hc' h2 rfl
    · exact ne_of_types hc hc' h3 rfl
  refine ⟨H.bank.fr hf (fun i p hi k hk hk' => ?_) hN, held_to hh (fun k hk => hk), fun k hk => (hF k (bk_in hh k hk)).elim (H.ge k) id, H.al.of (fun k hk hb => ?_), H.bl.of (fun k hk hb => ?_), H.ll, H.ks_in, H.frm.trans hf (fun k hk hb => by have := H.ge k hb; omega), hl, hfl, hp⟩
  · obtain ⟨cs, T, hc, hT⟩ := bk_kind H.held k hk'
    rcases hT with rfl | rfl | rfl <;> exact (H.bank.rep i p hi).not hc (by decide) (by decide) (by decide) (by decide) hk
  · obtain ⟨cs, hc⟩ := own_kind H.al hb
    exact hf.block k hk (ne hc (by decide) (by decide) (by decide))
  · obtain ⟨cs, hc⟩ := own_kind H.bl hb
    exact hf.block k hk (ne hc (by decide) (by decide) (by decide))

/-- one pair more is laid, on no list yet -/
theorem Desk.more (h : Desk w0 w bd P N av bv vo vw ks E fr) {p : Pr} (hf : Fr (fun _ => False) w w') (hp : PRep w' p) (hg : p.g ≤ N) (hn : ∀ k, p.foot k → w.heap.size ≤ k) : Desk w0 w' bd (P ++ [p]) N av bv vo vw ks E fr := by
  have h' := h.stay hf (Int.le_refl N)
  refine ⟨h.bank.add hf hp hg hn h.frm.size, h'.held, h'.ge, h'.al, h'.bl, h'.ll, fun x hx => ?_, h'.frm, h'.lim, h'.fle, h'.pot⟩
  rw [List.map_append]
  exact List.mem_append_left _ (h'.ks_in x hx)
end

/-- What each call leaves: the answer true, a desk. -/
def DeskPost (w0 : World) (bd : Nat) (N : Int) (e : Ending) (w' : World) : Prop := e = .returned (.bool true) ∧ ∃ P av bv vo vw ks E fr, Desk w0 w' bd P N av bv vo vw ks E fr ∧ 1 ≤ ks.length

end Go.Proofs.Ytikimfdijkejpaa.HT
