/- Lists of numbers that were handed out, each with what it must read as: how these lie in memory. -/
import Derived.Test.YtikimfdijkejpaaHpLists
namespace Go.Sb
open Go.RowKit

def bi (z : Int) : Value := .int .i64 z

/-- The slice value v reads as the numbers zs in the world w. -/
def RJ (w : World) (v : Value) (zs : List Int) : Prop := ∃ a c, v = .slice a zs.length c ∧ (0 < zs.length → ∃ b, a = some ⟨b, 0, none⟩ ∧ ∀ (i : Nat) (x : Int), zs[i]? = some x → w.cell? ⟨b, i, none⟩ = some (bi x))
/-- A slice of numbers that the call itself made. -/
def OB (E : TypeId) (F : Nat → Prop) (w : World) (v : Value) (xs : List Int) : Prop := Own E 1 F w v xs.length (xs.map bi)

theorem RJ.of {w w' : World} {v : Value} {xs : List Int} (h : RJ w v xs) (hk : ∀ k, k < w.heap.size → v.ownBlock = some k → w'.heap[k]? = w.heap[k]?) : RJ w' v xs := by
  obtain ⟨a, c, rfl, h3⟩ := h
  refine ⟨a, c, rfl, fun h0 => ?_⟩
  obtain ⟨b, rfl, h4⟩ := h3 h0
  refine ⟨b, rfl, fun i x hx => ?_⟩
  have h5 := h4 i x hx
  rw [World.cell?_of_block (w := w) (hk b (World.block_lt_of_cell? w _ h5) rfl)]
  exact h5

theorem RJ.drewN {w : World} {v : Value} {xs : List Int} (h : RJ w v xs) (n : Nat) : RJ (w.drewN n) v xs := h

theorem OB.rb {E : TypeId} {F : Nat → Prop} {w : World} {v : Value} {xs : List Int} (h : OB E F w v xs) : RJ w v xs := by
  rcases h.shape with ⟨rfl, h1, _⟩ | ⟨g, cap, rfl, h1, h2, hg⟩
  · exact ⟨none, 0, by rw [h1], fun h0 => by omega⟩
  · refine ⟨_, cap, rfl, fun _ => ⟨g, rfl, fun i x hx => ?_⟩⟩
    exact Own.cell h hg (by rw [List.getElem?_map, hx]; rfl)

structure Ent where
  out : Value
  want : Value
  xs : List Int

/-- v's block is one of F's and holds bytes. -/
def Blk (E : TypeId) (F : Nat → Prop) (w : World) (v : Value) : Prop := ∀ k, v.ownBlock = some k → F k ∧ ∃ cs, w.heap[k]? = some (.cells cs E (0, 0))
def Rd (E : TypeId) (F : Nat → Prop) (w : World) (v : Value) (xs : List Int) : Prop := RJ w v xs ∧ Blk E F w v
def Apart (a b : Value) : Prop := ∀ k, a.ownBlock = some k → b.ownBlock ≠ some k

theorem Apart.symm {a b : Value} (h : Apart a b) : Apart b a := fun k hb ha => h k ha hb

theorem OB.rd {E : TypeId} {F : Nat → Prop} {w : World} {v : Value} {xs : List Int} (h : OB E F w v xs) : Rd E F w v xs := by
  refine ⟨h.rb, fun k hk => ?_⟩
  rcases h.2 with ⟨rfl, _⟩ | ⟨g, cap, cur, rfl, hf, hg, r⟩
  · cases hk
  · simp only [Value.ownBlock, Option.some.injEq] at hk
    subst hk
    exact ⟨hf, cur, hg⟩

theorem Rd.of {E : TypeId} {F : Nat → Prop} {w w' : World} {v : Value} {xs : List Int} (h : Rd E F w v xs) (hk : ∀ k, v.ownBlock = some k → w'.heap[k]? = w.heap[k]?) : Rd E F w' v xs := by
  refine ⟨h.1.of (fun k _ hb => hk k hb), fun k hb => ?_⟩
  obtain ⟨h1, cs, h2⟩ := h.2 k hb
  exact ⟨h1, cs, (hk k hb).trans h2⟩

theorem OB.of {E : TypeId} {F : Nat → Prop} {w w' : World} {v : Value} {xs : List Int} (h : OB E F w v xs) (hk : ∀ k, v.ownBlock = some k → w'.heap[k]? = w.heap[k]?) : OB E F w' v xs := Own.of h (fun k _ hb => hk k hb)

/-- All of them; A tells which may be written into: these have memory that no other one reaches. -/
structure Pile (E : TypeId) (F : Nat → Prop) (w : World) (A : Nat → Prop) (L : List Ent) : Prop where
  rd : ∀ (j : Nat) (e : Ent), L[j]? = some e → Rd E F w e.out e.xs ∧ Rd E F w e.want e.xs
  act : ∀ (j : Nat) (e : Ent), A j → L[j]? = some e → OB E F w e.out e.xs ∧ OB E F w e.want e.xs ∧ Apart e.out e.want
  apart : ∀ (i j : Nat) (e f : Ent), A j → i ≠ j → L[i]? = some e → L[j]? = some f → Apart f.out e.out ∧ Apart f.out e.want ∧ Apart f.want e.out ∧ Apart f.want e.want

section
variable {E : TypeId} {F : Nat → Prop} {w w' : World} {A B : Nat → Prop} {L : List Ent}

theorem Pile.nil (E : TypeId) (F : Nat → Prop) (w : World) (A : Nat → Prop) : Pile E F w A [] := ⟨by simp, by simp, by simp⟩

theorem Pile.of (h : Pile E F w A L) (hk : ∀ k cs, F k → w.heap[k]? = some (.cells cs E (0, 0)) → w'.heap[k]? = w.heap[k]?) : Pile E F w' A L := by
  have hv : ∀ v, Blk E F w v → ∀ k, v.ownBlock = some k → w'.heap[k]? = w.heap[k]? := fun v hv k hb => by
    obtain ⟨h1, cs, h2⟩ := hv k hb
    exact hk k cs h1 h2
  refine ⟨fun j e he => ?_, fun j e hj he => ?_, h.apart⟩
  · obtain ⟨h1, h2⟩ := h.rd j e he
    exact ⟨h1.of (hv _ h1.2), h2.of (hv _ h2.2)⟩
  · obtain ⟨h1, h2, h3⟩ := h.act j e hj he
    exact ⟨h1.of (hv _ h1.rd.2), h2.of (hv _ h2.rd.2), h3⟩

theorem Pile.fr {G : Nat → Prop} (h : Pile E F w A L) (hf : Fr G w w') (hn : ∀ k, F k → ¬ G k) : Pile E F w' A L :=
  h.of (fun k _ hF hk => hf.block k (lt_of_heap hk) (hn k hF))

theorem Pile.sub (h : Pile E F w A L) (hB : ∀ j, B j → A j) : Pile E F w B L :=
  ⟨h.rd, fun j e hj => h.act j e (hB j hj), fun i j e f hj => h.apart i j e f (hB j hj)⟩

theorem Pile.mono {G : Nat → Prop} (h : Pile E F w A L) (hF : ∀ k, k < w.heap.size → F k → G k) : Pile E G w A L := by
  have hb : ∀ v, Blk E F w v → Blk E G w v := fun v hv k hk => by
    obtain ⟨h1, cs, h2⟩ := hv k hk
    exact ⟨hF k (lt_of_heap h2) h1, cs, h2⟩
  refine ⟨fun j e he => ?_, fun j e hj he => ?_, h.apart⟩
  · obtain ⟨h1, h2⟩ := h.rd j e he
    exact ⟨⟨h1.1, hb _ h1.2⟩, ⟨h2.1, hb _ h2.2⟩⟩
  · obtain ⟨h1, h2, h3⟩ := h.act j e hj he
    exact ⟨Own.mono h1 hF, Own.mono h2 hF, h3⟩

/-- no block of the pile lies above the heap -/
theorem Pile.lt (h : Pile E F w A L) {j : Nat} {e : Ent} (he : L[j]? = some e) {k : Nat} (hk : e.out.ownBlock = some k ∨ e.want.ownBlock = some k) : k < w.heap.size := by
  obtain ⟨h1, h2⟩ := h.rd j e he
  rcases hk with hk | hk
  · obtain ⟨_, cs, h⟩ := h1.2 k hk
    exact lt_of_heap h
  · obtain ⟨_, cs, h⟩ := h2.2 k hk
    exact lt_of_heap h

theorem get_snoc {α : Type} {L : List α} {x e : α} {j : Nat} (h : (L ++ [x])[j]? = some e) : L[j]? = some e ∧ j < L.length ∨ j = L.length ∧ e = x := by
  by_cases hj : j < L.length
  · rw [List.getElem?_append_left hj] at h
    exact .inl ⟨h, hj⟩
  · rw [List.getElem?_append_right (by omega)] at h
    have hl : j - L.length = 0 := by
      have := (List.getElem?_eq_some_iff.1 h).1
      simp at this
      omega
    rw [hl] at h
    simp at h
    exact .inr ⟨by omega, h.symm⟩

/-- one more, in memory of its own -/
theorem Pile.keep (h : Pile E F w A L) {b c : Value} {xs : List Int} (hb : OB E F w b xs) (hc : OB E F w c xs) (hbc : Apart b c)
    (hap : ∀ (j : Nat) (e : Ent), L[j]? = some e → Apart b e.out ∧ Apart b e.want ∧ Apart c e.out ∧ Apart c e.want) : Pile E F w (fun j => j < L.length ∧ A j ∨ j = L.length) (L ++ [⟨b, c, xs⟩]) := by
  refine ⟨fun j e he => ?_, fun j e hj he => ?_, fun i j e f hj hij he hf => ?_⟩
  · rcases get_snoc he with ⟨he, _⟩ | ⟨_, rfl⟩
    · exact h.rd j e he
    · exact ⟨hb.rd, hc.rd⟩
  · rcases get_snoc he with ⟨he, hl⟩ | ⟨_, rfl⟩
    · exact h.act j e (hj.elim (·.2) (fun h => by omega)) he
    · exact ⟨hb, hc, hbc⟩
  · rcases get_snoc he with ⟨he, hl⟩ | ⟨hl, rfl⟩
    · rcases get_snoc hf with ⟨hf, hl'⟩ | ⟨_, rfl⟩
      · exact h.apart i j e f (hj.elim (·.2) (fun h => by omega)) hij he hf
      · exact hap i e he
    · rcases get_snoc hf with ⟨hf, hl'⟩ | ⟨hl', rfl⟩
      · obtain ⟨h1, h2, h3, h4⟩ := hap j f hf
        exact ⟨h1.symm, h3.symm, h2.symm, h4.symm⟩
      · omega

theorem get_set {α : Type} {L : List α} {x e : α} {i j : Nat} (h : (L.set j x)[i]? = some e) : i = j ∧ e = x ∧ j < L.length ∨ i ≠ j ∧ L[i]? = some e := by
  rw [List.getElem?_set] at h
  by_cases hij : j = i
  · subst hij
    simp only [if_true] at h
    split at h
    · exact .inl ⟨rfl, by simpa using h.symm, by assumption⟩
    · cases h
  · rw [if_neg hij] at h
    exact .inr ⟨fun h => hij h.symm, h⟩

/-- one that may be written into now reads otherwise -/
theorem Pile.change (h : Pile E F w A L) {j : Nat} {e : Ent} (hj : A j) (he : L[j]? = some e) (hf : Fr (fun k => e.out.ownBlock = some k ∨ e.want.ownBlock = some k) w w') {ys : List Int}
    (ho : OB E F w' e.out ys) (hw : OB E F w' e.want ys) : Pile E F w' A (L.set j ⟨e.out, e.want, ys⟩) := by
  have keepv : ∀ v, Blk E F w v → Apart e.out v → Apart e.want v → ∀ k, v.ownBlock = some k → w'.heap[k]? = w.heap[k]? := fun v hv h1 h2 k hk => by
    obtain ⟨_, cs, hh⟩ := hv k hk
    exact hf.block k (lt_of_heap hh) (fun h => h.elim (fun h => h1 k h hk) (fun h => h2 k h hk))
  refine ⟨fun i f hf' => ?_, fun i f hi hf' => ?_, fun i i' f f' hi' hne hf1 hf2 => ?_⟩
  · rcases get_set hf' with ⟨_, rfl, _⟩ | ⟨hne, hf'⟩
    · exact ⟨ho.rd, hw.rd⟩
    · obtain ⟨a1, a2, a3, a4⟩ := h.apart i j f e hj hne hf' he
      obtain ⟨h1, h2⟩ := h.rd i f hf'
      exact ⟨h1.of (keepv _ h1.2 a1 a3), h2.of (keepv _ h2.2 a2 a4)⟩
  · rcases get_set hf' with ⟨rfl, rfl, _⟩ | ⟨hne, hf'⟩
    · exact ⟨ho, hw, (h.act i e hj he).2.2⟩
    · obtain ⟨a1, a2, a3, a4⟩ := h.apart i j f e hj hne hf' he
      obtain ⟨h1, h2, h3⟩ := h.act i f hi hf'
      exact ⟨h1.of (keepv _ h1.rd.2 a1 a3), h2.of (keepv _ h2.rd.2 a2 a4), h3⟩
  · rcases get_set hf1 with ⟨rfl, rfl, _⟩ | ⟨hne1, hg1⟩
    · rcases get_set hf2 with ⟨h', _⟩ | ⟨_, hg2⟩
      · exact absurd h'.symm hne
      · exact h.apart i i' e f' hi' hne he hg2
    · rcases get_set hf2 with ⟨rfl, rfl, _⟩ | ⟨hne2, hg2⟩
      · exact h.apart i i' f e hi' hne hg1 he
      · exact h.apart i i' f f' hi' hne hg1 hg2

/-- one of them grew, and what it grew into joined; it may not be written into any more -/
theorem Pile.grow (h : Pile E F w A L) {j : Nat} {e : Ent} (hj : A j) (he : L[j]? = some e) (hf : Fr (fun k => e.out.ownBlock = some k) w w') {l m : Value} {ys : List Int}
    (ho : Rd E F w' e.out e.xs) (hl : Rd E F w' l ys) (hm : Rd E F w' m ys) (hlb : ∀ k, l.ownBlock = some k → e.out.ownBlock = some k ∨ w.heap.size ≤ k) (hmb : ∀ k, m.ownBlock = some k → w.heap.size ≤ k) :
    Pile E F w' (fun i => A i ∧ i ≠ j ∧ i < L.length) (L ++ [⟨l, m, ys⟩]) := by
  have keepv : ∀ v, Blk E F w v → Apart e.out v → ∀ k, v.ownBlock = some k → w'.heap[k]? = w.heap[k]? := fun v hv h1 k hk => by
    obtain ⟨_, cs, hh⟩ := hv k hk
    exact hf.block k (lt_of_heap hh) (fun h => h1 k h hk)
  refine ⟨fun i f hf' => ?_, fun i f hi hf' => ?_, fun i i' f f' hi' hne hf1 hf2 => ?_⟩
  · rcases get_snoc hf' with ⟨hf', _⟩ | ⟨_, rfl⟩
    · obtain ⟨h1, h2⟩ := h.rd i f hf'
      by_cases hij : i = j
      · subst hij
        obtain rfl : e = f := Option.some.inj (he.symm.trans hf')
        exact ⟨ho, h2.of (keepv _ h2.2 (h.act i e hj he).2.2)⟩
      · obtain ⟨a1, a2, a3, a4⟩ := h.apart i j f e hj hij hf' he
        exact ⟨h1.of (keepv _ h1.2 a1), h2.of (keepv _ h2.2 a2)⟩
    · exact ⟨hl, hm⟩
  · obtain ⟨hA, hij, hlt⟩ := hi
    rcases get_snoc hf' with ⟨hf', _⟩ | ⟨hl, rfl⟩
    · obtain ⟨a1, a2, a3, a4⟩ := h.apart i j f e hj hij hf' he
      obtain ⟨h1, h2, h3⟩ := h.act i f hA hf'
      exact ⟨h1.of (keepv _ h1.rd.2 a1), h2.of (keepv _ h2.rd.2 a2), h3⟩
    · omega
  · obtain ⟨hA, hij, hlt⟩ := hi'
    rcases get_snoc hf2 with ⟨hf2, _⟩ | ⟨hl, rfl⟩
    · rcases get_snoc hf1 with ⟨hf1, _⟩ | ⟨hl1, rfl⟩
      · exact h.apart i i' f f' hA hne hf1 hf2
      · obtain ⟨a1, a2, a3, a4⟩ := h.apart i' j f' e hj hij hf2 he
        have big : ∀ v, (v = f'.out ∨ v = f'.want) → ∀ k, v.ownBlock = some k → k < w.heap.size := fun v hv k hk => h.lt hf2 (hv.imp (fun h => by rw [← h]; exact hk) (fun h => by rw [← h]; exact hk))
        refine ⟨fun k hk hk' => ?_, fun k hk hk' => ?_, fun k hk hk' => ?_, fun k hk hk' => ?_⟩
        · exact (hlb k hk').elim (fun h => a1 k h hk) (fun h => by have := big _ (.inl rfl) k hk; omega)
        · have := big _ (.inl rfl) k hk; have := hmb k hk'; omega
        · exact (hlb k hk').elim (fun h => a2 k h hk) (fun h => by have := big _ (.inr rfl) k hk; omega)
        · have := big _ (.inr rfl) k hk; have := hmb k hk'; omega
    · omega
end

/-- The two rows of them, and the struct at h that holds these. -/
structure HRows (TH R : TypeId) (F : Nat → Prop) (w : World) (h : Nat) (vo vw : Value) (rest : List Value × List Value) (L : List Ent) : Prop where
  head : w.heap[h]? = some (.cells (rest.1 ++ vo :: vw :: rest.2).toArray TH (0, 0))
  mine : F h
  outs : Own R 1 F w vo L.length (L.map (·.out))
  wants : Own R 1 F w vw L.length (L.map (·.want))
  apart : Apart vo vw

theorem HRows.fr {TH R : TypeId} {F G : Nat → Prop} {w w' : World} {h : Nat} {vo vw : Value} {rest : List Value × List Value} {L : List Ent} (hr : HRows TH R F w h vo vw rest L) (hf : Fr G w w') (hn : ∀ k, F k → ¬ G k) : HRows TH R F w' h vo vw rest L :=
  ⟨hf.get hr.head (hn _ hr.mine), hr.mine, hr.outs.fr hf (fun k _ h => hn k h), hr.wants.fr hf (fun k _ h => hn k h), hr.apart⟩

/-- bytes were written, and memory was taken: the rows stand -/
theorem HRows.bytes {TH R E : TypeId} {F G : Nat → Prop} {w w' : World} {h : Nat} {vo vw : Value} {rest : List Value × List Value} {L : List Ent} (hr : HRows TH R F w h vo vw rest L) (hf : Fr G w w')
    (hG : ∀ k, k < w.heap.size → G k → ∃ cs, w.heap[k]? = some (.cells cs E (0, 0))) (hE : TH ≠ E) (hE' : R ≠ E) : HRows TH R F w' h vo vw rest L := by
  have ne : ∀ v n xs, Own R 1 F w v n xs → ∀ k, v.ownBlock = some k → ¬ G k := fun v n xs hv k hk hg => by
    obtain ⟨cs, hc⟩ := hG k (hv.block k hk).2 hg
    rcases hv.2 with ⟨rfl, _⟩ | ⟨g, cap, cur, rfl, _, hgg, _⟩
    · cases hk
    · simp only [Value.ownBlock, Option.some.injEq] at hk
      subst hk
      exact ne_of_types hgg hc hE' rfl
  refine ⟨hf.get hr.head (fun hg => ?_), hr.mine, hr.outs.of (fun k hk hb => hf.block k hk (ne _ _ _ hr.outs k hb)), hr.wants.of (fun k hk hb => hf.block k hk (ne _ _ _ hr.wants k hb)), hr.apart⟩
  obtain ⟨cs, hc⟩ := hG _ (lt_of_heap hr.head) hg
  exact ne_of_types hr.head hc hE rfl

/-- the blocks of the rows and of the struct -/
def HRows.at (h : Nat) (vo vw : Value) (k : Nat) : Prop := k = h ∨ vo.ownBlock = some k ∨ vw.ownBlock = some k

theorem HRows.pile {TH R E : TypeId} {F : Nat → Prop} {A : Nat → Prop} {w w' : World} {h : Nat} {vo vw : Value} {rest : List Value × List Value} {L L' : List Ent} (hr : HRows TH R F w h vo vw rest L') (hp : Pile E F w A L) (hf : Fr (HRows.at h vo vw) w w')
    (hE : TH ≠ E) (hE' : R ≠ E) : Pile E F w' A L := by
  have ne : ∀ v n xs, Own R 1 F w v n xs → ∀ k cs, w.heap[k]? = some (.cells cs E (0, 0)) → v.ownBlock ≠ some k := fun v n xs hv k cs hc hk => by
    rcases hv.2 with ⟨rfl, _⟩ | ⟨g, cap, cur, rfl, _, hgg, _⟩
    · cases hk
    · simp only [Value.ownBlock, Option.some.injEq] at hk
      subst hk
      exact ne_of_types hgg hc hE' rfl
  refine hp.of (fun k cs hF hk => hf.block k (lt_of_heap hk) ?_)
  rintro (rfl | h1 | h1)
  · exact ne_of_types hr.head hk hE rfl
  · exact ne _ _ _ hr.outs k cs hk h1
  · exact ne _ _ _ hr.wants k cs hk h1

/-- both -/
structure Held (TH R E : TypeId) (F : Nat → Prop) (w : World) (A : Nat → Prop) (h : Nat) (vo vw : Value) (rest : List Value × List Value) (L : List Ent) : Prop where
  rows : HRows TH R F w h vo vw rest L
  pile : Pile E F w A L

theorem Held.fr {TH R E : TypeId} {F G : Nat → Prop} {w w' : World} {A : Nat → Prop} {h : Nat} {vo vw : Value} {rest : List Value × List Value} {L : List Ent} (hh : Held TH R E F w A h vo vw rest L) (hf : Fr G w w') (hn : ∀ k, F k → ¬ G k) :
    Held TH R E F w' A h vo vw rest L := ⟨hh.rows.fr hf hn, hh.pile.fr hf hn⟩

theorem Held.none {TH R E : TypeId} {F : Nat → Prop} {w w' : World} {A : Nat → Prop} {h : Nat} {vo vw : Value} {rest : List Value × List Value} {L : List Ent} (hh : Held TH R E F w A h vo vw rest L) (hf : Fr (fun _ => False) w w') :
    Held TH R E F w' A h vo vw rest L := hh.fr hf (fun _ _ h => h)

theorem Own.some {E : TypeId} {size n : Nat} {F : Nat → Prop} {w : World} {v : Value} {xs : List Value} (h : Own E size F w v n xs) (hn : 0 < n) : ∃ g cap, v = .slice (some ⟨g, 0, none⟩) n cap ∧ n ≤ cap ∧ cap ≤ maxLen := by
  rcases h.shape with ⟨_, h0, _⟩ | ⟨g, cap, he, h1, h2, _⟩
  · omega
  · exact ⟨g, cap, he, h1, h2⟩

theorem own_ne {TH R : TypeId} {F : Nat → Prop} {w : World} {h : Nat} {cs : Array Value} (hh : w.heap[h]? = some (.cells cs TH (0, 0))) (hne : TH ≠ R) {v : Value} {n : Nat} {xs : List Value} (hv : Own R 1 F w v n xs) : v.ownBlock ≠ some h := by
  intro hk
  rcases hv.2 with ⟨rfl, _⟩ | ⟨g, cap, cur, rfl, _, hgg, _⟩
  · cases hk
  · simp only [Value.ownBlock, Option.some.injEq] at hk
    subst hk
    exact ne_of_types hh hgg hne rfl

/-- ONE OF THE STRUCT's ROWS GREW BY ONE, and the struct holds what it grew into. -/
theorem row_grown {TH R : TypeId} {F : Nat → Prop} {w w3 : World} {h j : Nat} {cs : Array Value} {v u v3 b : Value} {n m : Nat} {xs ys : List Value} {T : TypeId} (hh : w.heap[h]? = some (.cells cs TH (0, 0))) (hne : TH ≠ R)
    (hv : Own R 1 F w v n xs) (hu : Own R 1 F w u m ys) (hap : Apart v u) (hF : ∀ k, w.heap.size ≤ k → F k)
    (hv3 : Own R 1 (ex F (w.alloc (.cells #[b] T))) w3 v3 (n + 1) (xs ++ [b])) (hf3 : Fr (fun k => v.ownBlock = some k) (w.alloc (.cells #[b] T)) w3)
    (hd3 : v3.ownBlock = v.ownBlock ∨ (Fr (fun _ => False) (w.alloc (.cells #[b] T)) w3 ∧ v3.ownBlock = some (w.alloc (.cells #[b] T)).heap.size)) :
    (w3.setCell ⟨h, j, none⟩ v3).heap[h]? = some (.cells (cs.setIfInBounds j v3) TH (0, 0)) ∧ Own R 1 F (w3.setCell ⟨h, j, none⟩ v3) v3 (n + 1) (xs ++ [b]) ∧ Own R 1 F (w3.setCell ⟨h, j, none⟩ v3) u m ys ∧ Apart v3 u ∧
      Fr (fun k => k = h ∨ v.ownBlock = some k) w (w3.setCell ⟨h, j, none⟩ v3) := by
  have hlt := lt_of_heap hh
  have hA : Fr (fun k => v.ownBlock = some k) w w3 := ((Fr.refl _ w).alloc _).trans hf3 (fun k hk h => h)
  have hno := own_ne hh hne hv
  have hh3 : w3.heap[h]? = some (.cells cs TH (0, 0)) := hA.get hh hno
  have hv3' : Own R 1 F w3 v3 (n + 1) (xs ++ [b]) := hv3.mono (fun k _ hk => hk.elim id (fun hk => hF k (by simp at hk; omega)))
  have hu3 : Own R 1 F w3 u m ys := hu.of (fun k hk hb => hA.block k hk (fun hv' => hap k hv' hb))
  have apart3 : Apart v3 u := by
    intro k hk hk'
    rcases hd3 with hd | ⟨_, hd⟩
    · rw [hd] at hk
      exact hap k hk hk'
    · have := (hu.block k hk').2
      rw [hd, Option.some.injEq] at hk
      simp at hk
      omega
  refine ⟨heap_setCell_eq j v3 hh3, hv3'.of (fun k hk hb => heap_setCell_ne _ _ _ _ ?_), hu3.of (fun k hk hb => heap_setCell_ne _ _ _ _ ?_), apart3, (hA.mono (fun k _ hk => .inr hk)).setCell (.inl (.inl rfl)) _⟩
  · rintro rfl
    exact own_ne hh3 hne hv3' hb
  · rintro rfl
    exact own_ne hh3 hne hu3 hb

theorem HRows.blk {TH R E : TypeId} {F G : Nat → Prop} {w w' : World} {h : Nat} {vo vw : Value} {rest : List Value × List Value} {L : List Ent} (hr : HRows TH R F w h vo vw rest L) (hf : Fr (HRows.at h vo vw) w w') (hE : TH ≠ E) (hE' : R ≠ E) {v : Value}
    (hv : Blk E G w v) : ∀ k, v.ownBlock = some k → w'.heap[k]? = w.heap[k]? := by
  intro k hk
  obtain ⟨_, cs, hc⟩ := hv k hk
  refine hf.block k (lt_of_heap hc) ?_
  have ne : ∀ v n xs, Own R 1 F w v n xs → v.ownBlock ≠ some k := fun v n xs hv hk => by
    rcases hv.2 with ⟨rfl, _⟩ | ⟨g, cap, cur, rfl, _, hgg, _⟩
    · cases hk
    · simp only [Value.ownBlock, Option.some.injEq] at hk
      subst hk
      exact ne_of_types hgg hc hE' rfl
  rintro (rfl | h1 | h1)
  · exact ne_of_types hr.head hc hE rfl
  · exact ne _ _ _ hr.outs h1
  · exact ne _ _ _ hr.wants h1

theorem Pile.lift {E : TypeId} {F : Nat → Prop} {w : World} {A B : Nat → Prop} {L : List Ent} (h : Pile E F w A L) (hB : ∀ j, j < L.length → B j → A j) : Pile E F w B L :=
  ⟨h.rd, fun j e hj he => h.act j e (hB j (List.getElem?_eq_some_iff.1 he).1 hj) he, fun i j e f hj hij he hf => h.apart i j e f (hB j (List.getElem?_eq_some_iff.1 hf).1 hj) hij he hf⟩

theorem HRows.frF {TH R : TypeId} {F : Nat → Prop} {w w' : World} {h : Nat} {vo vw : Value} {rest : List Value × List Value} {L : List Ent} (hr : HRows TH R F w h vo vw rest L) (hf : Fr (HRows.at h vo vw) w w') : Fr F w w' := by
  refine hf.mono (fun k _ hk => ?_)
  rcases hk with rfl | hk | hk
  · exact hr.mine
  · exact (hr.outs.block k hk).1
  · exact (hr.wants.block k hk).1

/-- A list that was handed out is being lengthened, beside a copy of it. -/
structure GrowSt (E : TypeId) (F : Nat → Prop) (w0 wr : World) (o l m : Value) (xs zl zm : List Int) : Prop where
  ro : Rd E F wr o xs
  oz : ∀ b off s n cc, o = .slice (some ⟨b, off, s⟩) n cc → off = 0
  ol : OB E F wr l zl
  om : OB E F wr m zm
  pre : ∃ ys, zl = xs ++ ys
  lb : ∀ k, l.ownBlock = some k → o.ownBlock = some k ∨ w0.heap.size ≤ k
  mb : ∀ k, m.ownBlock = some k → w0.heap.size ≤ k
  ob : ∀ k, o.ownBlock = some k → k < w0.heap.size
  ap : Apart l m
  fr : Fr (fun k => o.ownBlock = some k) w0 wr

theorem GrowSt.stepL {E : TypeId} {F : Nat → Prop} {w0 wr w3 : World} {o l m l3 : Value} {xs zl zm : List Int} {c : Int} {T : TypeId} (h : GrowSt E F w0 wr o l m xs zl zm) (hF : ∀ k, w0.heap.size ≤ k → F k)
    (hv3 : Own E 1 (ex F (wr.alloc (.cells #[bi c] T))) w3 l3 (zl.length + 1) (zl.map bi ++ [bi c])) (hf3 : Fr (fun k => l.ownBlock = some k) (wr.alloc (.cells #[bi c] T)) w3)
    (hd3 : l3.ownBlock = l.ownBlock ∨ (Fr (fun _ => False) (wr.alloc (.cells #[bi c] T)) w3 ∧ l3.ownBlock = some (wr.alloc (.cells #[bi c] T)).heap.size)) :
    GrowSt E F w0 w3 o l3 m xs (zl ++ [c]) zm := by
  have hs := h.fr.size
  have hA : Fr (fun k => l.ownBlock = some k) wr w3 := ((Fr.refl _ wr).alloc _).trans hf3 (fun k hk h => h)
  have hl3 : OB E F w3 l3 (zl ++ [c]) := by
    unfold OB
    rw [List.length_append, List.map_append]
    exact hv3.mono (fun k _ hk => hk.elim id (fun hk => hF k (by simp at hk; omega)))
  obtain ⟨ys, hys⟩ := h.pre
  refine ⟨?_, h.oz, hl3, ?_, ⟨ys ++ [c], by rw [hys, List.append_assoc]⟩, ?_, h.mb, h.ob, ?_, h.fr.trans hA (fun k hk hl => (h.lb k hl).elim id (fun h => absurd hk (by omega)))⟩
  · rcases hd3 with hd | ⟨hF3, _⟩
    · by_cases hlo : ∃ k, l.ownBlock = some k ∧ o.ownBlock = some k
      · obtain ⟨k, hk1, hk2⟩ := hlo
        rw [hk1] at hd
        refine ⟨?_, fun j hj => ?_⟩
        · obtain ⟨a, cc, rfl, h3⟩ := h.ro.1
          refine ⟨a, cc, rfl, fun h0 => ?_⟩
          obtain ⟨b, rfl, h4⟩ := h3 h0
          refine ⟨b, rfl, fun i x hi => ?_⟩
          obtain rfl : b = k := by simpa [Value.ownBlock] using hk2
          have hil := (List.getElem?_eq_some_iff.1 hi).1
          refine Own.cell hl3 hd ?_
          rw [hys, List.append_assoc, List.map_append, List.getElem?_append_left (by simpa using hil), List.getElem?_map, hi]
          rfl
        · rw [hk2, Option.some.injEq] at hj
          subst hj
          exact ⟨(Own.block hl3 k hd).1, (by
            rcases hl3.2 with ⟨rfl, _⟩ | ⟨g, cap, cur, rfl, _, hg, _⟩
            · cases hd
            · simp only [Value.ownBlock, Option.some.injEq] at hd
              subst hd
              exact ⟨cur, hg⟩)⟩
      · exact h.ro.of (fun k hk => hA.block k (h.ro.2 k hk |>.2.elim fun cs hc => lt_of_heap hc) (fun hl => hlo ⟨k, hl, hk⟩))
    · have hA' : Fr (fun _ => False) wr w3 := ((Fr.refl _ wr).alloc _).trans hF3 (fun k hk h => h)
      exact h.ro.of (fun k hk => hA'.block k (h.ro.2 k hk |>.2.elim fun cs hc => lt_of_heap hc) (fun h => h))
  · exact OB.of h.om (fun k hk => hA.block k (Own.block h.om k hk).2 (fun hl => h.ap k hl hk))
  · intro k hk
    rcases hd3 with hd | ⟨_, hd⟩
    · rw [hd] at hk
      exact h.lb k hk
    · rw [hd, Option.some.injEq] at hk
      simp at hk
      exact .inr (by omega)
  · intro k hk hk'
    rcases hd3 with hd | ⟨_, hd⟩
    · rw [hd] at hk
      exact h.ap k hk hk'
    · have := (Own.block h.om k hk').2
      rw [hd, Option.some.injEq] at hk
      simp at hk
      omega

theorem GrowSt.stepM {E : TypeId} {F : Nat → Prop} {w0 wr w3 : World} {o l m m3 : Value} {xs zl zm : List Int} {c : Int} {T : TypeId} (h : GrowSt E F w0 wr o l m xs zl zm) (hF : ∀ k, w0.heap.size ≤ k → F k)
    (hv3 : Own E 1 (ex F (wr.alloc (.cells #[bi c] T))) w3 m3 (zm.length + 1) (zm.map bi ++ [bi c])) (hf3 : Fr (fun k => m.ownBlock = some k) (wr.alloc (.cells #[bi c] T)) w3)
    (hd3 : m3.ownBlock = m.ownBlock ∨ (Fr (fun _ => False) (wr.alloc (.cells #[bi c] T)) w3 ∧ m3.ownBlock = some (wr.alloc (.cells #[bi c] T)).heap.size)) :
    GrowSt E F w0 w3 o l m3 xs zl (zm ++ [c]) := by
  have hs := h.fr.size
  have hA : Fr (fun k => m.ownBlock = some k) wr w3 := ((Fr.refl _ wr).alloc _).trans hf3 (fun k hk h => h)
  have hm3 : OB E F w3 m3 (zm ++ [c]) := by
    unfold OB
    rw [List.length_append, List.map_append]
    exact hv3.mono (fun k _ hk => hk.elim id (fun hk => hF k (by simp at hk; omega)))
  refine ⟨h.ro.of (fun k hk => hA.block k (Nat.lt_of_lt_of_le (h.ob k hk) hs) (fun hm => by have := h.mb k hm; have := h.ob k hk; omega)), h.oz, OB.of h.ol (fun k hk => hA.block k (Own.block h.ol k hk).2 (fun hm => h.ap k hk hm)), hm3, h.pre, h.lb, ?_, h.ob, ?_,
    h.fr.trans hA (fun k hk hm => by have := h.mb k hm; omega)⟩
  · intro k hk
    rcases hd3 with hd | ⟨_, hd⟩
    · rw [hd] at hk
      exact h.mb k hk
    · rw [hd, Option.some.injEq] at hk
      simp at hk
      omega
  · intro k hk hk'
    rcases hd3 with hd | ⟨_, hd⟩
    · rw [hd] at hk'
      exact h.ap k hk hk'
    · have := (Own.block h.ol k hk).2
      rw [hd, Option.some.injEq] at hk'
      simp at hk'
      omega

end Go.Sb
