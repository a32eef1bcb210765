/- How a queue of the program lies in memory: its head block, its map, its places, one block each. -/
import Derived.Test.YtolonoabipnpfaaBase
namespace Go.Sb
open Go.RowKit

/-- A place of a queue: its block, its ticket, its thing. -/
structure Nd where
  b : Nat
  t : Int
  v : Value

def at0 (b : Nat) : Option Addr := some ⟨b, 0, none⟩

def hd : List Nd → Option Addr
  | [] => none
  | n :: _ => some ⟨n.b, 0, none⟩
def lst : Option Addr → List Nd → Option Addr
  | p, [] => p
  | _, n :: r => lst (some ⟨n.b, 0, none⟩) r

theorem lst_snoc (p : Option Addr) (l : List Nd) (n : Nd) : lst p (l ++ [n]) = some ⟨n.b, 0, none⟩ := by
  induction l generalizing p with
  | nil => rfl
  | cons a l ih => exact ih _

theorem lst_app (p : Option Addr) (l : List Nd) (n : Nd) (r : List Nd) : lst p (l ++ n :: r) = lst (some ⟨n.b, 0, none⟩) r := by
  induction l generalizing p with
  | nil => rfl
  | cons a l ih => exact ih _

theorem hd_app (l r : List Nd) (h : l ≠ []) : hd (l ++ r) = hd l := by
  cases l with
  | nil => exact absurd rfl h
  | cons a l => rfl

/-- The places from here on: p is the address of the one ahead, e that of the one behind. -/
def Chain (w : World) (TP : TypeId) : Option Addr → List Nd → Option Addr → Prop
  | _, [], _ => True
  | p, n :: r, e => w.heap[n.b]? = some (.cells #[.int .i64 n.t, n.v, .pointer p, .pointer ((hd r).or e)] TP (0, 0)) ∧ Chain w TP (some ⟨n.b, 0, none⟩) r e

theorem chain_app {w : World} {TP : TypeId} : ∀ (l r : List Nd) (p e : Option Addr), Chain w TP p (l ++ r) e ↔ Chain w TP p l ((hd r).or e) ∧ Chain w TP (lst p l) r e
  | [], r, p, e => by simp [Chain, lst]
  | n :: l, r, p, e => by
    have ih := chain_app (w := w) (TP := TP) l r (some ⟨n.b, 0, none⟩) e
    have hh : (hd (l ++ r)).or e = (hd l).or ((hd r).or e) := by cases l <;> simp [hd]
    simp only [List.cons_append, Chain, hh, ih, lst, and_assoc]

theorem chain_of {w w' : World} {TP : TypeId} : ∀ (l : List Nd) (p e : Option Addr), Chain w TP p l e → (∀ n ∈ l, w'.heap[n.b]? = w.heap[n.b]?) → Chain w' TP p l e
  | [], _, _, _, _ => trivial
  | n :: l, _, e, h, hk => ⟨(hk n (by simp)).trans h.1, chain_of l _ e h.2 (fun m hm => hk m (by simp [hm]))⟩

theorem chain_type {w : World} {TP : TypeId} : ∀ (l : List Nd) (p e : Option Addr), Chain w TP p l e → ∀ n ∈ l, ∃ cs, w.heap[n.b]? = some (.cells cs TP (0, 0))
  | [], _, _, _, _, hn => by cases hn
  | m :: l, _, e, h, n, hn => by
    rcases List.mem_cons.1 hn with rfl | hn
    · exact ⟨_, h.1⟩
    · exact chain_type l _ e h.2 n hn

def np (n : Nd) : Int × Value := (n.t, .pointer (some ⟨n.b, 0, none⟩))

/-- A queue at block bq: its places l, its first one first; so many tickets were given. F holds of all its blocks. -/
structure QRep (TQ TP : TypeId) (F : Nat → Prop) (w : World) (bq : Nat) (g : Int) (l : List Nd) (bm : Nat) : Prop where
  head : w.heap[bq]? = some (.cells #[.pointer (hd l), .pointer (lst none l), .map (some bm), .int .i64 g] TQ (0, 0))
  places : HasMap w bm (l.map np)
  chain : Chain w TP none l none
  apart : (l.map Nd.b).Nodup
  fq : F bq
  fm : F bm
  fl : ∀ n ∈ l, F n.b
  keys : (l.map Nd.t).Nodup

section
variable {TQ TP : TypeId} {F G : Nat → Prop} {w w' : World} {bq bm : Nat} {g : Int} {l : List Nd}

theorem QRep.mono (h : QRep TQ TP F w bq g l bm) (hF : ∀ k, k < w.heap.size → F k → G k) : QRep TQ TP G w bq g l bm :=
  ⟨h.head, h.places, h.chain, h.apart, hF _ (lt_of_heap h.head) h.fq, hF _ h.places.lt h.fm, fun n hn => by
    obtain ⟨cs, hc⟩ := chain_type l _ _ h.chain n hn
    exact hF _ (lt_of_heap hc) (h.fl n hn), h.keys⟩

theorem QRep.of (h : QRep TQ TP F w bq g l bm) (hk : ∀ k, k < w.heap.size → F k → w'.heap[k]? = w.heap[k]?) : QRep TQ TP F w' bq g l bm :=
  ⟨(hk _ (lt_of_heap h.head) h.fq).trans h.head, h.places.of (hk _ h.places.lt h.fm), chain_of l _ _ h.chain (fun n hn => by
    obtain ⟨cs, hc⟩ := chain_type l _ _ h.chain n hn
    exact hk _ (lt_of_heap hc) (h.fl n hn)), h.apart, h.fq, h.fm, h.fl, h.keys⟩

theorem QRep.fr (h : QRep TQ TP F w bq g l bm) (hf : Fr G w w') (hd : ∀ k, k < w.heap.size → F k → ¬ G k) : QRep TQ TP F w' bq g l bm :=
  h.of (fun k hk hF => hf.block k hk (hd k hk hF))

theorem QRep.drewN (h : QRep TQ TP F w bq g l bm) (n : Nat) : QRep TQ TP F (w.drewN n) bq g l bm := h.of (fun _ _ _ => rfl)

theorem QRep.ne_map (h : QRep TQ TP F w bq g l bm) : bq ≠ bm := h.places.ne h.head
theorem QRep.ne_nd (h : QRep TQ TP F w bq g l bm) (hT : TQ ≠ TP) : ∀ n ∈ l, n.b ≠ bq := fun n hn => by
  obtain ⟨cs, hc⟩ := chain_type l _ _ h.chain n hn
  exact (ne_of_types h.head hc hT).symm
theorem QRep.nd_map (h : QRep TQ TP F w bq g l bm) : ∀ n ∈ l, n.b ≠ bm := fun n hn => by
  obtain ⟨cs, hc⟩ := chain_type l _ _ h.chain n hn
  exact h.places.ne hc
theorem QRep.nd_lt (h : QRep TQ TP F w bq g l bm) : ∀ n ∈ l, n.b < w.heap.size := fun n hn => by
  obtain ⟨cs, hc⟩ := chain_type l _ _ h.chain n hn
  exact lt_of_heap hc
theorem QRep.fst_keys (_h : QRep TQ TP F w bq g l bm) : (l.map np).map Prod.fst = l.map Nd.t := by
  rw [List.map_map]; rfl
end

/-- A new, empty queue. -/
theorem QRep.made (TQ TP : TypeId) (F : Nat → Prop) (w : World) (hF : ∀ k, w.heap.size ≤ k → F k) :
    QRep TQ TP F ((w.alloc (.map #[] 0)).alloc (.cells #[.pointer none, .pointer none, .map (some w.heap.size), .int .i64 0] TQ)) (w.heap.size + 1) 0 [] w.heap.size :=
  ⟨by have := heap_alloc_eq (w.alloc (.map #[] 0)) (.cells #[.pointer none, .pointer none, .map (some w.heap.size), .int .i64 0] TQ); simpa [hd, lst] using this,
   (HasMap.made w).alloc _, trivial, by simp, hF _ (by omega), hF _ (by omega), by simp, by simp⟩

/-- One more behind the others: what the world W must hold. -/
theorem QRep.joined {TQ TP : TypeId} {F : Nat → Prop} {w W : World} {bq bm : Nat} {g : Int} {l : List Nd} (h : QRep TQ TP F w bq g l bm) (hT : TQ ≠ TP) (t : Int) (v : Value) (g' : Int)
    (hq : W.heap[bq]? = some (.cells #[.pointer (hd (l ++ [⟨w.heap.size, t, v⟩])), .pointer (some ⟨w.heap.size, 0, none⟩), .map (some bm), .int .i64 g'] TQ (0, 0)))
    (hm : HasMap W bm (l.map np ++ [(t, .pointer (some ⟨w.heap.size, 0, none⟩))]))
    (hn : W.heap[w.heap.size]? = some (.cells #[.int .i64 t, v, .pointer (lst none l), .pointer none] TP (0, 0)))
    (hl : ∀ l0 m, l = l0 ++ [m] → W.heap[m.b]? = some (.cells #[.int .i64 m.t, m.v, .pointer (lst none l0), .pointer (some ⟨w.heap.size, 0, none⟩)] TP (0, 0)))
    (hk : ∀ k, k < w.heap.size → k ≠ bq → k ≠ bm → (∀ l0 m, l = l0 ++ [m] → k ≠ m.b) → W.heap[k]? = w.heap[k]?) (ht : t ∉ l.map Nd.t) :
    QRep TQ TP (ex F w) W bq g' (l ++ [⟨w.heap.size, t, v⟩]) bm := by
  have hlt := h.nd_lt
  refine ⟨by rw [lst_snoc]; exact hq, by simpa [np] using hm, ?_, ?_, .inl h.fq, .inl h.fm, ?_, ?_⟩
  · rw [chain_app]
    refine ⟨?_, hn, trivial⟩
    rcases List.eq_nil_or_concat l with rfl | ⟨l0, m, rfl⟩
    · trivial
    · rw [List.concat_eq_append] at *
      rw [chain_app]
      have hc := (chain_app l0 [m] none none).1 h.chain
      have hmb : m.b ∉ l0.map Nd.b := by
        have := h.apart
        rw [List.map_append, List.nodup_append] at this
        intro hin
        exact this.2.2 _ hin m.b (by simp) rfl
      have hk0 : ∀ n ∈ l0, W.heap[n.b]? = w.heap[n.b]? := fun n hn => hk n.b (hlt n (by simp [hn])) (h.ne_nd hT n (by simp [hn])) (h.nd_map n (by simp [hn])) (fun l1 m1 e => by
        have := List.append_inj_right' e rfl
        simp only [List.cons.injEq, and_true] at this
        subst this
        intro e2
        exact hmb (e2 ▸ List.mem_map.2 ⟨n, hn, rfl⟩))
      exact ⟨chain_of l0 _ _ hc.1 hk0, hl l0 m rfl, trivial⟩
  · rw [List.map_append, List.nodup_append]
    refine ⟨h.apart, by simp, ?_⟩
    intro a ha b hb
    obtain ⟨n, hn, rfl⟩ := List.mem_map.1 ha
    simp only [List.map_cons, List.map_nil, List.mem_singleton] at hb
    subst hb
    exact Nat.ne_of_lt (hlt n hn)
  · intro n hn
    rcases List.mem_append.1 hn with hn | hn
    · exact .inl (h.fl n hn)
    · simp only [List.mem_singleton] at hn
      subst hn
      exact .inr (Nat.le_refl _)
  · rw [List.map_append, List.nodup_append]
    refine ⟨h.keys, by simp, ?_⟩
    intro a ha b hb
    simp only [List.map_cons, List.map_nil, List.mem_singleton] at hb
    subst hb
    rintro rfl
    exact ht ha

theorem apart_ne {l : List Nd} (h : (l.map Nd.b).Nodup) {xs ys : List Nd} (hl : l = xs ++ ys) {a c : Nd} (ha : a ∈ xs) (hc : c ∈ ys) : a.b ≠ c.b := by
  subst hl
  rw [List.map_append, List.nodup_append] at h
  exact h.2.2 _ (List.mem_map.2 ⟨a, ha, rfl⟩) _ (List.mem_map.2 ⟨c, hc, rfl⟩)

theorem snoc_inj {α : Type} {l0 l1 : List α} {m m1 : α} (h : l0 ++ [m] = l1 ++ [m1]) : l0 = l1 ∧ m = m1 := by
  have e1 := List.append_inj_left' h rfl
  have e2 := List.append_inj_right' h rfl
  simp only [List.cons.injEq, and_true] at e2
  exact ⟨e1, e2⟩

/-- One has left: what the world W must hold. -/
theorem QRep.left {TQ TP : TypeId} {F : Nat → Prop} {w W : World} {bq bm : Nat} {g : Int} {l us vs : List Nd} {n : Nd} (h : QRep TQ TP F w bq g l bm) (hl : l = us ++ n :: vs) (hT : TQ ≠ TP)
    (hq : W.heap[bq]? = some (.cells #[.pointer (hd (us ++ vs)), .pointer (lst none (us ++ vs)), .map (some bm), .int .i64 g] TQ (0, 0)))
    (hm : HasMap W bm (us.map np ++ vs.map np))
    (hu : ∀ u0 m, us = u0 ++ [m] → W.heap[m.b]? = some (.cells #[.int .i64 m.t, m.v, .pointer (lst none u0), .pointer (hd vs)] TP (0, 0)))
    (hv : ∀ m v0, vs = m :: v0 → W.heap[m.b]? = some (.cells #[.int .i64 m.t, m.v, .pointer (lst none us), .pointer (hd v0)] TP (0, 0)))
    (hk : ∀ k, k < w.heap.size → k ≠ bq → k ≠ bm → (∀ u0 m, us = u0 ++ [m] → k ≠ m.b) → (∀ m v0, vs = m :: v0 → k ≠ m.b) → W.heap[k]? = w.heap[k]?) :
    QRep TQ TP F W bq g (us ++ vs) bm := by
  have hin : ∀ m, m ∈ us ++ vs → m ∈ l := fun m hm => by
    rw [hl]
    rcases List.mem_append.1 hm with hm | hm
    · exact List.mem_append.2 (.inl hm)
    · exact List.mem_append.2 (.inr (List.mem_cons_of_mem _ hm))
  have hsub : (us ++ vs).Sublist l := by
    rw [hl]
    exact List.Sublist.append (List.Sublist.refl _) (List.sublist_cons_self _ _)
  have hc := (chain_app us (n :: vs) none none).1 (hl ▸ h.chain)
  refine ⟨hq, by rw [List.map_append]; exact hm, ?_, h.apart.sublist (hsub.map _), h.fq, h.fm, fun m hm => h.fl m (hin m hm), h.keys.sublist (hsub.map _)⟩
  rw [chain_app]
  constructor
  · rcases List.eq_nil_or_concat us with e | ⟨u0, m, e⟩
    · subst e; trivial
    · rw [List.concat_eq_append] at e
      have hc1 := hc.1
      rw [e, chain_app] at hc1 ⊢
      refine ⟨chain_of u0 _ _ hc1.1 (fun a ha => ?_), by simpa [hd] using hu u0 m e, trivial⟩
      have hau : a ∈ us := by rw [e]; simp [ha]
      refine hk a.b (h.nd_lt a (hin a (by simp [hau]))) (h.ne_nd hT a (hin a (by simp [hau]))) (h.nd_map a (hin a (by simp [hau]))) (fun u1 m1 e1 => ?_) (fun m1 v0 e1 => ?_)
      · have := snoc_inj (e.symm.trans e1)
        rw [← this.2]
        exact apart_ne h.apart (hl.trans (by rw [e]; simp) : l = u0 ++ (m :: n :: vs)) ha (by simp)
      · exact apart_ne h.apart hl hau (by simp [e1])
  · cases vs with
    | nil => trivial
    | cons m v0 =>
      refine ⟨by simpa using hv m v0 rfl, chain_of v0 _ _ hc.2.2.2 (fun a ha => ?_)⟩
      have hal : a ∈ us ++ m :: v0 := by simp [ha]
      refine hk a.b (h.nd_lt a (hin a hal)) (h.ne_nd hT a (hin a hal)) (h.nd_map a (hin a hal)) (fun u1 m1 e1 => ?_) (fun m1 v1 e1 => ?_)
      · exact (apart_ne h.apart hl (a := m1) (c := a) (by rw [e1]; simp) (by simp [ha])).symm
      · cases e1
        exact (apart_ne h.apart (hl.trans (by simp) : l = (us ++ [n, m]) ++ v0) (a := m) (c := a) (by simp) ha).symm

/-- The only one has left. -/
theorem QRep.emptied {TQ TP : TypeId} {F : Nat → Prop} {w W : World} {bq bm : Nat} {g : Int} {l : List Nd} (h : QRep TQ TP F w bq g l bm)
    (hq : W.heap[bq]? = some (.cells #[.pointer none, .pointer none, .map (some bm), .int .i64 g] TQ (0, 0))) (hm : HasMap W bm []) : QRep TQ TP F W bq g [] bm :=
  ⟨hq, hm, trivial, by simp, h.fq, h.fm, by simp, by simp⟩

theorem nd_at {TQ TP : TypeId} {F : Nat → Prop} {w : World} {bq bm : Nat} {g : Int} {l us vs : List Nd} {n : Nd} (h : QRep TQ TP F w bq g l bm) (hl : l = us ++ n :: vs) :
    w.heap[n.b]? = some (.cells #[.int .i64 n.t, n.v, .pointer (lst none us), .pointer (hd vs)] TP (0, 0)) := by
  have hc := (chain_app us (n :: vs) none none).1 (hl ▸ h.chain)
  simpa using hc.2.1

theorem mem_split {l : List Nd} {n : Nd} {us vs : List Nd} (h : l = us ++ n :: vs) : l.map np = us.map np ++ (n.t, .pointer (some ⟨n.b, 0, none⟩)) :: vs.map np := by
  subst h
  simp [np]

theorem nodup_ahead {l : List Nd} {n : Nd} {us vs : List Nd} (h : l = us ++ n :: vs) (hk : (l.map Nd.t).Nodup) : n.t ∉ (us.map np).map Prod.fst := by
  subst h
  rw [List.map_append, List.nodup_append] at hk
  intro hin
  rw [List.map_map] at hin
  exact hk.2.2 _ hin n.t (by simp) rfl

def JoinPost (TQ TP : TypeId) (F : Nat → Prop) (w : World) (bq : Nat) (g : Int) (l : List Nd) (bm : Nat) (v : Value) (e : Ending) (w' : World) : Prop :=
  e = .returned (.int .i64 (g + 1)) ∧ (∃ b, w.heap.size ≤ b ∧ QRep TQ TP (ex F w) w' bq (g + 1) (l ++ [⟨b, g + 1, v⟩]) bm) ∧ Fr F w w'

def LeavePost (TQ TP : TypeId) (F : Nat → Prop) (w : World) (bq : Nat) (g : Int) (l : List Nd) (bm : Nat) (v : Value) (e : Ending) (w' : World) : Prop :=
  e = .returned (.tuple #[v, .bool true]) ∧ QRep TQ TP F w' bq g l bm ∧ Fr F w w'

end Go.Sb
