/- QueuePlays: some pairs of queues side by side, iterators that are kept: what the desk holds. -/
import Derived.Test.YtolonoabipnpfaaQWhile
import Derived.Test.YtolonoabipnpfaaQEarly
import Derived.Test.YtolonoabipnpfaaOwnOff
namespace Go.Proofs.Ytolonoabipnpfaa
open Go.RowKit Go.Sb

def key (p : Pr) : Nat × Nat := (p.bq, p.br)

/-- All pairs that were ever laid: each alike, no two of a block. -/
structure Bank (w0 w : World) (P : List Pr) (N : Int) : Prop where
  rep : ∀ (i : Nat) p, P[i]? = some p → PRep w p
  le : ∀ (i : Nat) p, P[i]? = some p → p.g ≤ N
  ge : ∀ (i : Nat) p, P[i]? = some p → ∀ k, p.foot k → w0.heap.size ≤ k
  dj : ∀ (i j : Nat) p q, P[i]? = some p → P[j]? = some q → i ≠ j → ∀ k, p.foot k → ¬ q.foot k

theorem Bank.nil (w0 w : World) (N : Int) : Bank w0 w [] N := ⟨by simp, by simp, by simp, by simp⟩

theorem Bank.fr {w0 w w' : World} {P : List Pr} {N N' : Int} {G : Nat → Prop} (h : Bank w0 w P N) (hf : Fr G w w') (hG : ∀ (i : Nat) p, P[i]? = some p → ∀ k, p.foot k → ¬ G k) (hN : N ≤ N') : Bank w0 w' P N' :=
  ⟨fun i p hi => (h.rep i p hi).fr hf (hG i p hi), fun i p hi => Int.le_trans (h.le i p hi) hN, h.ge, h.dj⟩

theorem Bank.turn {w0 w w' : World} {P : List Pr} {N N' : Int} {i : Nat} {p p' : Pr} (h : Bank w0 w P N) (hi : P[i]? = some p) (ht : PTurn w w' p p') (hg : p'.g ≤ N') (hN : N ≤ N') (h0 : w0.heap.size ≤ w.heap.size) : Bank w0 w' (P.set i p') N' := by
  have hil := (List.getElem?_eq_some_iff.1 hi).1
  have hget : ∀ j q, (P.set i p')[j]? = some q → (j = i ∧ q = p') ∨ (j ≠ i ∧ P[j]? = some q) := fun j q hq => by
    rw [List.getElem?_set] at hq
    by_cases e : i = j
    · subst e
      rw [if_pos rfl, if_pos hil] at hq
      exact .inl ⟨rfl, (Option.some.inj hq).symm⟩
    · rw [if_neg e] at hq
      exact .inr ⟨fun h => e h.symm, hq⟩
  have hnew : ∀ j q, j ≠ i → P[j]? = some q → ∀ k, q.foot k → ¬ p'.foot k := fun j q hj hq k hk hk' => by
    rcases ht.fo k hk' with h1 | h1
    · exact h.dj j i q p hq hi hj k hk h1
    · have := (h.rep j q hq).lt k hk
      omega
  refine ⟨fun j q hq => ?_, fun j q hq => ?_, fun j q hq => ?_, fun j l q r hq hr hjl k hk hk' => ?_⟩
  · rcases hget j q hq with ⟨rfl, rfl⟩ | ⟨hj, hq'⟩
    · exact ht.rep
    · exact (h.rep j q hq').fr ht.fr (fun k hk hk' => h.dj j i q p hq' hi hj k hk hk')
  · rcases hget j q hq with ⟨rfl, rfl⟩ | ⟨hj, hq'⟩
    · exact hg
    · exact Int.le_trans (h.le j q hq') hN
  · rcases hget j q hq with ⟨rfl, rfl⟩ | ⟨hj, hq'⟩
    · intro k hk
      rcases ht.fo k hk with h1 | h1
      · exact h.ge j p hi k h1
      · omega
    · exact h.ge j q hq'
  · rcases hget j q hq with ⟨rfl, rfl⟩ | ⟨hj, hq'⟩
    · rcases hget l r hr with ⟨rfl, rfl⟩ | ⟨hl, hr'⟩
      · exact hjl rfl
      · exact hnew l r hl hr' k hk' hk
    · rcases hget l r hr with ⟨rfl, rfl⟩ | ⟨hl, hr'⟩
      · exact hnew j q hj hq' k hk hk'
      · exact h.dj j l q r hq' hr' hjl k hk hk'

/-- one pair more -/
theorem Bank.add {w0 w w' : World} {P : List Pr} {N : Int} {p : Pr} (h : Bank w0 w P N) (hf : Fr (fun _ => False) w w') (hp : PRep w' p) (hg : p.g ≤ N) (hn : ∀ k, p.foot k → w.heap.size ≤ k) (h0 : w0.heap.size ≤ w.heap.size) : Bank w0 w' (P ++ [p]) N := by
  have hget : ∀ (j : Nat) q, (P ++ [p])[j]? = some q → P[j]? = some q ∨ (j = P.length ∧ q = p) := fun j q hq => by
    rw [List.getElem?_append] at hq
    split at hq
    · exact .inl hq
    · rw [List.getElem?_singleton] at hq
      split at hq
      · exact .inr ⟨by omega, (Option.some.inj hq).symm⟩
      · cases hq
  refine ⟨fun j q hq => ?_, fun j q hq => ?_, fun j q hq => ?_, fun j l q r hq hr hjl k hk hk' => ?_⟩
  · rcases hget j q hq with hq' | ⟨rfl, rfl⟩
    · exact (h.rep j q hq').fr hf (fun _ _ h => h)
    · exact hp
  · rcases hget j q hq with hq' | ⟨rfl, rfl⟩
    · exact h.le j q hq'
    · exact hg
  · rcases hget j q hq with hq' | ⟨rfl, rfl⟩
    · exact h.ge j q hq'
    · intro k hk
      exact Nat.le_trans h0 (hn k hk)
  · rcases hget j q hq with hq' | ⟨rfl, rfl⟩
    · rcases hget l r hr with hr' | ⟨rfl, rfl⟩
      · exact h.dj j l q r hq' hr' hjl k hk hk'
      · have := (h.rep j q hq').lt k hk
        have := hn k hk'
        omega
    · rcases hget l r hr with hr' | ⟨rfl, rfl⟩
      · have := (h.rep l r hr').lt k hk'
        have := hn k hk
        omega
      · exact hjl rfl

theorem key_set {P : List Pr} {i : Nat} {p p' : Pr} (hi : P[i]? = some p) (h1 : p'.bq = p.bq) (h2 : p'.br = p.br) : (P.set i p').map key = P.map key := by
  have hil := (List.getElem?_eq_some_iff.1 hi).1
  rw [List.map_set, show key p' = key p by simp [key, h1, h2]]
  refine List.ext_getElem? (fun j => ?_)
  rw [List.getElem?_set]
  by_cases e : i = j
  · subst e
    rw [if_pos rfl, if_pos (by simpa using hil), List.getElem?_map, hi]
    rfl
  · rw [if_neg e]

theorem key_at {P : List Pr} {x : Nat × Nat} (h : x ∈ P.map key) : ∃ (i : Nat) (p : Pr), P[i]? = some p ∧ p.bq = x.1 ∧ p.br = x.2 := by
  obtain ⟨p, hp, rfl⟩ := List.mem_map.1 h
  obtain ⟨i, hi⟩ := List.getElem?_of_mem hp
  exact ⟨i, p, hi, rfl, rfl⟩

/-- the two cells of a pair; of a kept iterator -/
def pc (x : Nat × Nat) : List Value := [.pointer (some ⟨x.1, 0, none⟩), .pointer (some ⟨x.2, 0, none⟩)]
def kc (x : Nat × Nat × Nat) : List Value := [.func (.func 43) #[] #[.pointer (some ⟨x.1, 0, none⟩)], .pointer (some ⟨x.2.2, 0, none⟩)]

theorem flat_set : ∀ (l : List (Nat × Nat)) (k : Nat) (x : Nat × Nat), k < l.length → (l.set k x).flatMap pc = ((l.flatMap pc).set (k * 2) (.pointer (some ⟨x.1, 0, none⟩))).set (k * 2 + 1) (.pointer (some ⟨x.2, 0, none⟩))
  | [], _, _, h => by simp at h
  | _ :: _, 0, _, _ => rfl
  | a :: l, k + 1, x, h => by
    have ih := flat_set l k x (by simpa using h)
    rw [List.set_cons_succ, List.flatMap_cons, ih, List.flatMap_cons, show (k + 1) * 2 = (k * 2) + 1 + 1 by omega]
    rfl

structure Desk (w0 w : World) (bd : Nat) (P : List Pr) (N : Int) (lv kv : Value) (ks : List (Nat × Nat)) (kk : List (Nat × Nat × Nat)) : Prop where
  bank : Bank w0 w P N
  head : w.heap[bd]? = some (.cells #[lv, kv] 58 (0, 0))
  gd : w0.heap.size ≤ bd
  l : Sb.Own 60 2 (fun k => w0.heap.size ≤ k) w lv ks.length (ks.flatMap pc)
  k : OwnO 116 2 (fun k => w0.heap.size ≤ k) w kv kk.length (kk.flatMap kc)
  ll : ks.length ≤ 4
  kl : kk.length ≤ 4
  ks_in : ∀ x ∈ ks, x ∈ P.map key
  kk_in : ∀ x ∈ kk, x.2 ∈ P.map key ∧ w.heap[x.1]? = some (.cells #[.pointer (some ⟨x.2.1, 0, none⟩)] 45 (0, 0))
  fr : Fr (fun _ => False) w0 w

theorem own_block_cells {E : TypeId} {size n : Nat} {F : Nat → Prop} {w : World} {v : Value} {xs : List Value} (h : Sb.Own E size F w v n xs) {k : Nat} (hk : v.ownBlock = some k) : F k ∧ ∃ cs, w.heap[k]? = some (.cells cs E (0, 0)) := by
  rcases h.2 with ⟨rfl, _⟩ | ⟨g, cap, cur, rfl, hf, hg, r⟩
  · cases hk
  · simp only [Value.ownBlock, Option.some.injEq] at hk
    subst hk
    exact ⟨hf, _, hg⟩

theorem own_nez {TH R : TypeId} {z : Nat} {F : Nat → Prop} {w : World} {h : Nat} {cs : Array Value} (hh : w.heap[h]? = some (.cells cs TH (0, 0))) (hne : TH ≠ R) {v : Value} {n : Nat} {xs : List Value} (hv : Sb.Own R z F w v n xs) : v.ownBlock ≠ some h := fun hk => by
  obtain ⟨_, cs', hc⟩ := own_block_cells hv hk
  exact ne_of_types hh hc hne rfl
theorem owno_nez {TH R : TypeId} {z : Nat} {F : Nat → Prop} {w : World} {h : Nat} {cs : Array Value} (hh : w.heap[h]? = some (.cells cs TH (0, 0))) (hne : TH ≠ R) {v : Value} {n : Nat} {xs : List Value} (hv : OwnO R z F w v n xs) : v.ownBlock ≠ some h := fun hk => by
  obtain ⟨_, cs', hc⟩ := hv.block h hk
  exact ne_of_types hh hc hne rfl

section
variable {w0 w w' : World} {bd : Nat} {P : List Pr} {N N' : Int} {lv kv : Value} {ks : List (Nat × Nat)} {kk : List (Nat × Nat × Nat)}

theorem Desk.stay (h : Desk w0 w bd P N lv kv ks kk) (hf : Fr (fun _ => False) w w') (hN : N ≤ N') : Desk w0 w' bd P N' lv kv ks kk :=
  ⟨h.bank.fr hf (fun _ _ _ _ _ h => h) hN, hf.get h.head id, h.gd, h.l.fr hf (fun _ _ _ h => h), h.k.of (fun k hk _ => hf.block k hk id), h.ll, h.kl, h.ks_in, fun x hx => ⟨(h.kk_in x hx).1, hf.get (h.kk_in x hx).2 id⟩,
    h.fr.trans hf (fun _ _ h => h)⟩

/-- one of the pairs has turned -/
theorem Desk.turn (h : Desk w0 w bd P N lv kv ks kk) {i : Nat} {p p' : Pr} (hi : P[i]? = some p) (ht : PTurn w w' p p') (hg : p'.g ≤ N') (hN : N ≤ N') : Desk w0 w' bd (P.set i p') N' lv kv ks kk := by
  have hp := h.bank.rep i p hi
  have hkey := key_set hi ht.bq ht.br
  refine ⟨h.bank.turn hi ht hg hN h.fr.size, ht.fr.get h.head (hp.not h.head (by decide) (by decide) (by decide) (by decide)), h.gd, h.l.of (fun k hk hb => ?_), h.k.of (fun k hk hb => ?_), h.ll, h.kl, ?_, ?_, h.fr.trans ht.fr (fun k hk hp => by have := h.bank.ge i p hi k hp; omega)⟩
  · obtain ⟨_, cs, hc⟩ := own_block_cells h.l hb
    exact ht.fr.block k hk (hp.not hc (by decide) (by decide) (by decide) (by decide))
  · obtain ⟨_, cs, hc⟩ := h.k.block k hb
    exact ht.fr.block k hk (hp.not hc (by decide) (by decide) (by decide) (by decide))
  · intro x hx
    rw [hkey]
    exact h.ks_in x hx
  · intro x hx
    rw [hkey]
    exact ⟨(h.kk_in x hx).1, ht.fr.get (h.kk_in x hx).2 (hp.not (h.kk_in x hx).2 (by decide) (by decide) (by decide) (by decide))⟩

/-- one pair more is laid, on no list yet -/
theorem Desk.more (h : Desk w0 w bd P N lv kv ks kk) {p : Pr} (hf : Fr (fun _ => False) w w') (hp : PRep w' p) (hg : p.g ≤ N) (hn : ∀ k, p.foot k → w.heap.size ≤ k) : Desk w0 w' bd (P ++ [p]) N lv kv ks kk := by
  have h' := h.stay hf (Int.le_refl N)
  refine ⟨h.bank.add hf hp hg hn h.fr.size, h'.head, h'.gd, h'.l, h'.k, h'.ll, h'.kl, fun x hx => ?_, fun x hx => ⟨?_, (h'.kk_in x hx).2⟩, h'.fr⟩
  · rw [List.map_append]
    exact List.mem_append_left _ (h'.ks_in x hx)
  · rw [List.map_append]
    exact List.mem_append_left _ (h'.kk_in x hx).1

/-- another list of pairs; of what is kept -/
theorem Desk.lists (h : Desk w0 w bd P N lv kv ks kk) {G : Nat → Prop} (hf : Fr G w w') (hG : ∀ k, G k → ∃ cs T, w.heap[k]? = some (.cells cs T (0, 0)) ∧ (T = 58 ∨ T = 60 ∨ T = 116)) (h0 : ∀ k, G k → w0.heap.size ≤ k) {lv' kv' : Value} {ks' : List (Nat × Nat)} {kk' : List (Nat × Nat × Nat)}
    (hh : w'.heap[bd]? = some (.cells #[lv', kv'] 58 (0, 0))) (hl : Sb.Own 60 2 (fun k => w0.heap.size ≤ k) w' lv' ks'.length (ks'.flatMap pc)) (hk : OwnO 116 2 (fun k => w0.heap.size ≤ k) w' kv' kk'.length (kk'.flatMap kc)) (h4 : ks'.length ≤ 4) (h5 : kk'.length ≤ 4)
    (hi : ∀ x ∈ ks', x ∈ P.map key) (hj : ∀ x ∈ kk', x.2 ∈ P.map key ∧ w'.heap[x.1]? = some (.cells #[.pointer (some ⟨x.2.1, 0, none⟩)] 45 (0, 0))) (hN : N ≤ N') : Desk w0 w' bd P N' lv' kv' ks' kk' := by
  refine ⟨h.bank.fr hf (fun i p hi k hk hg => ?_) hN, hh, h.gd, hl, hk, h4, h5, hi, hj, h.fr.trans hf (fun k hk hg => by have := h0 k hg; omega)⟩
  obtain ⟨cs, T, hc, hT⟩ := hG k hg
  have hp := h.bank.rep i p hi
  rcases hT with rfl | rfl | rfl <;> exact hp.not hc (by decide) (by decide) (by decide) (by decide) hk
/-- one more on the list of pairs -/
theorem Desk.pushed (h : Desk w0 w bd P N lv kv ks kk) {a b : World} (ha : Fr (fun _ => False) w a) {v : Value} {x : Nat × Nat} (hv : Sb.Own 60 2 (ex (fun k => w0.heap.size ≤ k) a) b v (ks.length + 1) (ks.flatMap pc ++ pc x)) (hf : Fr (fun k => lv.ownBlock = some k) a b)
    (hl : ks.length < 4) (hx : x ∈ P.map key) : Desk w0 (b.setCell ⟨bd, 0, none⟩ v) bd P N v kv (ks ++ [x]) kk := by
  have H := h.stay ha (Int.le_refl N)
  have hno := own_nez H.head (by decide) H.l
  have hb := hf.get H.head hno
  have h0 : w0.heap.size ≤ a.heap.size := H.fr.size
  have hfin : Fr (fun k => lv.ownBlock = some k ∨ k = bd) a (b.setCell ⟨bd, 0, none⟩ v) := (hf.mono (fun k _ hk => .inl hk)).setCell (p := ⟨bd, 0, none⟩) (.inl (.inr rfl)) v
  have hset := heap_setCell_eq 0 v hb
  simp only [List.setIfInBounds_toArray, List.set_cons_zero] at hset
  refine H.lists hfin ?_ ?_ hset ?_ ?_ (by simp; omega) H.kl ?_ ?_ (Int.le_refl N)
  · rintro k (hk | rfl)
    · obtain ⟨_, cs, hc⟩ := own_block_cells H.l hk
      exact ⟨cs, 60, hc, .inr (.inl rfl)⟩
    · exact ⟨_, 58, H.head, .inl rfl⟩
  · rintro k (hk | rfl)
    · exact (own_block_cells H.l hk).1
    · exact H.gd
  · have hvb := own_nez hb (by decide) hv
    rw [List.length_append, List.length_singleton, List.flatMap_append, List.flatMap_singleton]
    refine (hv.of (fun k _ hk => heap_setCell_ne _ _ _ _ (fun e => hvb (by rw [hk, e])))).mono (fun k _ hk => hk.elim id (fun h => Nat.le_trans h0 h))
  · refine H.k.of (fun k hk hb => hfin.block k hk ?_)
    obtain ⟨_, cs, hc⟩ := H.k.block k hb
    rintro (h | rfl)
    · obtain ⟨_, cs', hc'⟩ := own_block_cells H.l h
      exact ne_of_types hc hc' (by decide) rfl
    · exact ne_of_types hc H.head (by decide) rfl
  · intro y hy
    rcases List.mem_append.1 hy with hy | hy
    · exact H.ks_in y hy
    · rw [List.mem_singleton] at hy
      rw [hy]
      exact hx
  · intro y hy
    refine ⟨(H.kk_in y hy).1, hfin.get (H.kk_in y hy).2 ?_⟩
    rintro (h | h)
    · obtain ⟨_, cs', hc'⟩ := own_block_cells H.l h
      exact ne_of_types (H.kk_in y hy).2 hc' (by decide) rfl
    · have hc := (H.kk_in y hy).2
      rw [h] at hc
      exact ne_of_types hc H.head (by decide) rfl

/-- another in the place of one on the list -/
theorem Desk.placed (h : Desk w0 w bd P N lv kv ks kk) {a b : World} (ha : Fr (fun _ => False) w a) {g cap : Nat} (hlv : lv = .slice (some ⟨g, 0, none⟩) ks.length cap) {x : Nat × Nat} {k : Nat} (hk : k < ks.length)
    (hf : Fr (fun k => k = g) a b) (hb : ∀ cur : Array Value, a.heap[g]? = some (.cells cur 60 (0, 0)) → b.heap[g]? = some (.cells ((cur.setIfInBounds (k * 2) (.pointer (some ⟨x.1, 0, none⟩))).setIfInBounds (k * 2 + 1) (.pointer (some ⟨x.2, 0, none⟩))) 60 (0, 0)))
    (hx : x ∈ P.map key) : Desk w0 b bd P N lv kv (ks.set k x) kk := by
  have H := h.stay ha (Int.le_refl N)
  subst hlv
  obtain ⟨hl1, hl2⟩ := H.l
  rcases hl2 with ⟨hl2, _⟩ | ⟨g', cap', cur, hv, hF, hg, h3, h4, h5, h6⟩
  · cases hl2
  cases hv
  have hne : ∀ (c : Nat) (cs : Array Value) (T : TypeId), a.heap[c]? = some (.cells cs T (0, 0)) → T ≠ 60 → c ≠ g := fun c cs T hc hT => ne_of_types hc hg hT
  refine H.lists hf ?_ ?_ (hf.get H.head (hne _ _ _ H.head (by decide))) ?_ ?_ (by rw [List.length_set]; exact H.ll) H.kl ?_ ?_ (Int.le_refl N)
  · rintro c rfl
    exact ⟨cur, 60, hg, .inr (.inl rfl)⟩
  · rintro c rfl
    exact hF
  · rw [List.length_set]
    refine ⟨?_, .inr ⟨g, cap, _, rfl, hF, hb cur hg, h3, h4, by simpa using h5, ?_⟩⟩
    · rw [← hl1]
      simp [pc, List.length_flatMap, List.map_const']
    · rw [Array.toList_setIfInBounds, Array.toList_setIfInBounds, List.take_set, List.take_set, h6]
      exact (flat_set ks k x hk).symm
  · refine H.k.of (fun c hc hb => hf.block c hc ?_)
    obtain ⟨_, cs, hcs⟩ := H.k.block c hb
    exact hne c cs _ hcs (by decide)
  · intro y hy
    rcases List.mem_or_eq_of_mem_set hy with hy | rfl
    · exact H.ks_in y hy
    · exact hx
  · intro y hy
    exact ⟨(H.kk_in y hy).1, hf.get (H.kk_in y hy).2 (hne _ _ _ (H.kk_in y hy).2 (by decide))⟩
end

/-- a clone of a pair -/
theorem PRep.cloned {w1 w2 w3 w4 : World} {p : Pr} (h : PRep w1 p) {bc bmc bc2 : Nat} {tv sv : Value} {ls : List Nd} (hq : QRep 93 96 (fun k => w1.heap.size ≤ k) w2 bc p.g ls bmc) (hnv : ls.map nv = p.l.map nv) (hf3 : Fr (fun _ => False) w2 w3)
    (hr : RRep (fun k => w2.heap.size ≤ k) w3 bc2 tv sv p.g p.xs) (hs : w1.heap.size ≤ w2.heap.size) (hf4 : Fr (fun _ => False) w3 w4) : PRep w4 ⟨bc, bmc, bc2, tv, sv, p.g, ls, p.xs⟩ ∧ ∀ k, Pr.foot ⟨bc, bmc, bc2, tv, sv, p.g, ls, p.xs⟩ k → w1.heap.size ≤ k := by
  refine ⟨⟨(hq.exact.fr hf3 (fun _ _ _ h => h)).fr hf4 (fun _ _ _ h => h), hr.exact.fr hf4 (fun _ _ _ h => h), hnv.trans h.same, h.g0, fun n hn => ?_, h.len⟩, ?_⟩
  · have hm : nv n ∈ p.l.map nv := hnv ▸ List.mem_map_of_mem hn
    obtain ⟨m, hm, he⟩ := List.mem_map.1 hm
    have := h.le m hm
    have ht : m.t = n.t := congrArg Prod.fst he
    show n.t ≤ p.g
    omega
  · rintro k (hk | hk)
    · exact hq.foot_in k hk
    · exact Nat.le_trans hs (hr.foot_in k hk)

/-- What each call leaves: the answer true, a desk. -/
def DeskPost (w0 : World) (bd : Nat) (N : Int) (e : Ending) (w' : World) : Prop := e = .returned (.bool true) ∧ ∃ P lv kv ks kk, Desk w0 w' bd P N lv kv ks kk ∧ 1 ≤ ks.length

end Go.Proofs.Ytolonoabipnpfaa
