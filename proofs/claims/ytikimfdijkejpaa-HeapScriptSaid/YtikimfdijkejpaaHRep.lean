/- How a heap of the program lies in memory: its head block, its list of entries, its map of places. -/
import Derived.Test.YtikimfdijkejpaaOwnStep
import Derived.Test.YtikimfdijkejpaaMapOps
import Derived.Test.YtikimfdijkejpaaHpPlain
namespace Go.Sb
open Go.RowKit

/-- An entry: its ticket, its thing's cells. -/
structure HE where
  t : Int
  cs : List Value

def ecells (e : HE) : List Value := .int .i64 e.t :: e.cs
def allc (es : List HE) : List Value := es.flatMap ecells

/-- The map knows the place of each. -/
structure Places (m : List (Int × Value)) (es : List HE) : Prop where
  keys : (m.map Prod.fst).Nodup
  hit : ∀ (i : Nat) (e : HE), es[i]? = some e → (e.t, .int .i64 (i : Int)) ∈ m
  back : ∀ t ∈ m.map Prod.fst, ∃ e ∈ es, e.t = t

structure HRep (TH TE : TypeId) (sz : Nat) (F : Nat → Prop) (w : World) (bh : Nat) (fv : Value) (g : Int) (es : List HE) (lv : Value) (bm : Nat) (m : List (Int × Value)) : Prop where
  head : w.heap[bh]? = some (.cells #[fv, lv, .map (some bm), .int .i64 g] TH (0, 0))
  list : Own TE sz F w lv es.length (allc es)
  map : HasMap w bm m
  ok : Places m es
  fh : F bh
  fm : F bm
  wid : ∀ e ∈ es, e.cs.length + 1 = sz
  one : ∀ e ∈ es, ∀ u ∈ e.cs, u.oneCell' = true

section
variable {TH TE : TypeId} {sz : Nat} {F G : Nat → Prop} {w w' : World} {bh bm : Nat} {fv lv : Value} {g : Int} {es : List HE} {m : List (Int × Value)}

theorem HRep.mono (h : HRep TH TE sz F w bh fv g es lv bm m) (hF : ∀ k, k < w.heap.size → F k → G k) : HRep TH TE sz G w bh fv g es lv bm m :=
  ⟨h.head, h.list.mono hF, h.map, h.ok, hF _ (lt_of_heap h.head) h.fh, hF _ h.map.lt h.fm, h.wid, h.one⟩

theorem HRep.of (h : HRep TH TE sz F w bh fv g es lv bm m) (hk : ∀ k, k < w.heap.size → F k → w'.heap[k]? = w.heap[k]?) : HRep TH TE sz F w' bh fv g es lv bm m :=
  ⟨(hk _ (lt_of_heap h.head) h.fh).trans h.head, h.list.of (fun k hl hb => hk k hl (h.list.block k hb).1), h.map.of (hk _ h.map.lt h.fm), h.ok, h.fh, h.fm, h.wid, h.one⟩

theorem HRep.some {α : Type} {f : α → HE} {L : List α} (h : HRep TH TE sz F w bh fv g (L.map f) lv bm m) {i : Nat} (hi : i < L.length) : ∃ gg cap, lv = .slice (some ⟨gg, 0, none⟩) L.length cap ∧ L.length ≤ cap ∧ cap ≤ maxLen := by
  rcases h.list.shape with ⟨_, hl, _⟩ | ⟨gg, cap, he, h1, h2, _⟩
  · simp at hl
    subst hl
    simp at hi
  · exact ⟨gg, cap, by simpa using he, by simpa using h1, h2⟩

theorem HRep.fr (h : HRep TH TE sz F w bh fv g es lv bm m) (hf : Fr G w w') (hd : ∀ k, k < w.heap.size → F k → ¬ G k) : HRep TH TE sz F w' bh fv g es lv bm m :=
  h.of (fun k hk hF => hf.block k hk (hd k hk hF))
end

theorem allc_length {sz : Nat} : ∀ (es : List HE), (∀ e ∈ es, e.cs.length + 1 = sz) → (allc es).length = es.length * sz
  | [], _ => by simp [allc]
  | e :: es, h => by
    have ih := allc_length es (fun x hx => h x (by simp [hx]))
    have he := h e (by simp)
    unfold allc at ih ⊢
    rw [List.flatMap_cons, List.length_append, ih, List.length_cons, Nat.succ_mul]
    simp [ecells]
    omega

theorem allc_at {sz : Nat} : ∀ (es : List HE), (∀ e ∈ es, e.cs.length + 1 = sz) → ∀ (i : Nat) (e : HE), es[i]? = some e → ∀ j, j < sz → (allc es)[i * sz + j]? = (ecells e)[j]?
  | [], _, i, e, h, _, _ => by simp at h
  | a :: es, hw, 0, e, h, j, hj => by
    simp at h
    subst h
    have ha := hw a (by simp)
    unfold allc
    rw [List.flatMap_cons, List.getElem?_append_left (by simp [ecells]; omega)]
    simp
  | a :: es, hw, i + 1, e, h, j, hj => by
    have ih := allc_at es (fun x hx => hw x (by simp [hx])) i e (by simpa using h) j hj
    have ha := hw a (by simp)
    have hl : (ecells a).length = sz := by simp [ecells]; omega
    unfold allc at ih ⊢
    rw [List.flatMap_cons, List.getElem?_append_right (by rw [hl, Nat.succ_mul]; omega), ← ih, hl]
    congr 1
    rw [Nat.succ_mul]
    omega

/-- A cell of a row is written. -/
theorem Own.setAt {E : TypeId} {size n : Nat} {F : Nat → Prop} {w : World} {v : Value} {xs : List Value} (h : Own E size F w v n xs) {g : Nat} (hg : v.ownBlock = some g) {k : Nat} (hk : k < n * size) (u : Value) : Own E size F (w.setCell ⟨g, k, none⟩ u) v n (xs.set k u) := by
  obtain ⟨h1, h2⟩ := h
  refine ⟨by simpa using h1, ?_⟩
  rcases h2 with ⟨rfl, _⟩ | ⟨g', cap, cur, rfl, hf, hgg, h3, h4, h5, h6⟩
  · cases hg
  · simp only [Value.ownBlock, Option.some.injEq] at hg
    subst hg
    refine .inr ⟨g', cap, _, rfl, hf, heap_setCell_eq _ _ hgg, h3, h4, by simpa using h5, ?_⟩
    rw [← h6]
    apply List.ext_getElem?
    intro i
    rw [List.getElem?_take, List.getElem?_set, List.getElem?_take]
    by_cases hi : i < n * size
    · rw [if_pos hi, if_pos hi]
      simp only [Array.getElem?_toList, Array.getElem?_setIfInBounds]
      by_cases hik : k = i
      · subst hik
        have : k < cur.size := by
          have : n * size ≤ cap * size := Nat.mul_le_mul_right _ h3
          omega
        simp [this]
        omega
      · simp [hik]
    · rw [if_neg hi, if_neg hi]
      have : k ≠ i := by omega
      simp [this]

theorem allc_set3 : ∀ (es : List HE), (∀ e ∈ es, e.cs.length + 1 = 3) → ∀ (i : Nat) (t : Int) (b c : Value), i < es.length → (((allc es).set (i * 3) (.int .i64 t)).set (i * 3 + 1) b).set (i * 3 + 2) c = allc (es.set i ⟨t, [b, c]⟩)
  | [], _, i, _, _, _, h => by simp at h
  | a :: es, hw, 0, t, b, c, h => by
    obtain ⟨at', acs⟩ := a
    have ha := hw ⟨at', acs⟩ (by simp)
    match acs, ha with
    | [x, y], _ => simp [allc, ecells]
  | a :: es, hw, i + 1, t, b, c, h => by
    have ih := allc_set3 es (fun x hx => hw x (by simp [hx])) i t b c (by simpa using h)
    obtain ⟨at', acs⟩ := a
    have ha := hw ⟨at', acs⟩ (by simp)
    match acs, ha with
    | [x, y], _ =>
      have e0 : allc (⟨at', [x, y]⟩ :: es) = .int .i64 at' :: x :: y :: allc es := by simp [allc, ecells]
      have e1 : (i + 1) * 3 = i * 3 + 1 + 1 + 1 := by omega
      rw [e0, List.set_cons_succ, show allc (⟨at', [x, y]⟩ :: es.set i ⟨t, [b, c]⟩) = .int .i64 at' :: x :: y :: allc (es.set i ⟨t, [b, c]⟩) by simp [allc, ecells], ← ih, e1]
      rfl

theorem allc_set2 : ∀ (es : List HE), (∀ e ∈ es, e.cs.length + 1 = 2) → ∀ (i : Nat) (t : Int) (b : Value), i < es.length → ((allc es).set (i * 2) (.int .i64 t)).set (i * 2 + 1) b = allc (es.set i ⟨t, [b]⟩)
  | [], _, i, _, _, h => by simp at h
  | a :: es, hw, 0, t, b, h => by
    obtain ⟨at', acs⟩ := a
    have ha := hw ⟨at', acs⟩ (by simp)
    match acs, ha with
    | [x], _ => simp [allc, ecells]
  | a :: es, hw, i + 1, t, b, h => by
    have ih := allc_set2 es (fun x hx => hw x (by simp [hx])) i t b (by simpa using h)
    obtain ⟨at', acs⟩ := a
    have ha := hw ⟨at', acs⟩ (by simp)
    match acs, ha with
    | [x], _ =>
      have e0 : allc (⟨at', [x]⟩ :: es) = .int .i64 at' :: x :: allc es := by simp [allc, ecells]
      have e1 : (i + 1) * 2 = i * 2 + 1 + 1 := by omega
      rw [e0, List.set_cons_succ, show allc (⟨at', [x]⟩ :: es.set i ⟨t, [b]⟩) = .int .i64 at' :: x :: allc (es.set i ⟨t, [b]⟩) by simp [allc, ecells], ← ih, e1]
      rfl

/-- A map's entry, and what it becomes. -/
theorem split_at {m : List (Int × Value)} {t : Int} {v : Value} (hk : (m.map Prod.fst).Nodup) (h : (t, v) ∈ m) : ∃ as bs, m = as ++ (t, v) :: bs ∧ t ∉ as.map Prod.fst ∧ t ∉ bs.map Prod.fst := by
  obtain ⟨as, bs, rfl⟩ := List.append_of_mem h
  rw [List.map_append, List.map_cons, List.nodup_append] at hk
  refine ⟨as, bs, rfl, fun hin => hk.2.2 _ hin t (by simp) rfl, fun hin => ?_⟩
  have := hk.2.1
  rw [List.nodup_cons] at this
  exact this.1 hin

/-- One entry of the map gets another value. -/
def putM (m : List (Int × Value)) (t : Int) (v : Value) : List (Int × Value) := m.map fun p => if p.1 = t then (t, v) else p

theorem putM_split {as bs : List (Int × Value)} {t : Int} {u v : Value} (h1 : t ∉ as.map Prod.fst) (h2 : t ∉ bs.map Prod.fst) : putM (as ++ (t, u) :: bs) t v = as ++ (t, v) :: bs := by
  have key : ∀ l : List (Int × Value), t ∉ l.map Prod.fst → l.map (fun p => if p.1 = t then (t, v) else p) = l := by
    intro l
    induction l with
    | nil => intro _; rfl
    | cons p l ih =>
      intro h
      simp only [List.map_cons, List.mem_cons, not_or] at h
      rw [List.map_cons, if_neg (fun e => h.1 e.symm), ih h.2]
  unfold putM
  rw [List.map_append, List.map_cons, key as h1, key bs h2, if_pos rfl]

theorem putM_keys (m : List (Int × Value)) (t : Int) (v : Value) : (putM m t v).map Prod.fst = m.map Prod.fst := by
  unfold putM
  rw [List.map_map]
  apply List.map_congr_left
  intro p _
  simp only [Function.comp]
  split
  · rename_i h; exact h.symm
  · rfl

theorem mem_putM {m : List (Int × Value)} {t : Int} {v : Value} {q : Int × Value} (hq : q ∈ m) : (if q.1 = t then (t, v) else q) ∈ putM m t v := List.mem_map.2 ⟨q, hq, rfl⟩

theorem Places.tickets {m : List (Int × Value)} {es : List HE} (h : Places m es) {i j : Nat} {a b : HE} (hi : es[i]? = some a) (hj : es[j]? = some b) (hne : i ≠ j) : a.t ≠ b.t := by
  intro e
  have h1 := h.hit i a hi
  have h2 := h.hit j b hj
  obtain ⟨as, bs, hm, ha, hb⟩ := split_at h.keys h1
  rw [hm, e] at h2
  rcases List.mem_append.1 h2 with h3 | h3
  · exact ha (List.mem_map.2 ⟨_, h3, e.symm⟩)
  · rcases List.mem_cons.1 h3 with h3 | h3
    · simp only [Prod.mk.injEq, Value.int.injEq] at h3
      omega
    · exact hb (List.mem_map.2 ⟨_, h3, e.symm⟩)

/-- The map behind an exchange. -/
theorem Places.swap {m : List (Int × Value)} {es : List HE} (h : Places m es) {i j : Nat} {a b : HE} (hi : es[i]? = some a) (hj : es[j]? = some b) (hne : i ≠ j) :
    Places (putM (putM m b.t (.int .i64 (i : Int))) a.t (.int .i64 (j : Int))) ((es.set i b).set j a) := by
  have hil := (List.getElem?_eq_some_iff.1 hi).1
  have hjl := (List.getElem?_eq_some_iff.1 hj).1
  have hab := h.tickets hi hj hne
  have hpm : ((es.set i b).set j a).Perm es := by
    have := swL_perm es i j
    rwa [swL_eq hi hj] at this
  refine ⟨by rw [putM_keys, putM_keys]; exact h.keys, fun k e hk => ?_, fun t ht => ?_⟩
  rotate_left
  · rw [putM_keys, putM_keys] at ht
    obtain ⟨e, he, het⟩ := h.back t ht
    exact ⟨e, hpm.mem_iff.2 he, het⟩
  rw [List.getElem?_set] at hk
  by_cases hjk : j = k
  · subst hjk
    rw [if_pos rfl] at hk
    simp only [List.length_set] at hk
    rw [if_pos hjl] at hk
    cases hk
    have h1 := mem_putM (t := b.t) (v := .int .i64 (i : Int)) (h.hit i a hi)
    rw [if_neg hab] at h1
    have h2 := mem_putM (t := a.t) (v := .int .i64 (j : Int)) h1
    rwa [if_pos rfl] at h2
  · rw [if_neg hjk, List.getElem?_set] at hk
    by_cases hik : i = k
    · subst hik
      rw [if_pos rfl, if_pos hil] at hk
      cases hk
      have h1 := mem_putM (t := b.t) (v := .int .i64 (i : Int)) (h.hit j b hj)
      rw [if_pos rfl] at h1
      have h2 := mem_putM (t := a.t) (v := .int .i64 (j : Int)) h1
      rwa [if_neg (Ne.symm hab)] at h2
    · rw [if_neg hik] at hk
      have e1 := h.tickets hk hi (Ne.symm hik)
      have e2 := h.tickets hk hj (Ne.symm hjk)
      have h1 := mem_putM (t := b.t) (v := .int .i64 (i : Int)) (h.hit k e hk)
      rw [if_neg e2] at h1
      have h2 := mem_putM (t := a.t) (v := .int .i64 (j : Int)) h1
      rwa [if_neg e1] at h2

theorem Places.none {m : List (Int × Value)} {es : List HE} (h : Places m es) {t : Int} (ht : ∀ e ∈ es, e.t ≠ t) : t ∉ m.map Prod.fst := fun hin => by
  obtain ⟨e, he, het⟩ := h.back t hin
  exact ht e he het

theorem Places.nil : Places [] [] := ⟨by simp, by simp, by simp⟩

/-- One more. -/
theorem Places.push {m : List (Int × Value)} {es : List HE} (h : Places m es) (e : HE) (ht : ∀ x ∈ es, x.t ≠ e.t) : Places (m ++ [(e.t, .int .i64 (es.length : Int))]) (es ++ [e]) := by
  have hn := h.none ht
  refine ⟨?_, fun k x hk => ?_, fun t htm => ?_⟩
  · rw [List.map_append, List.nodup_append]
    refine ⟨h.keys, by simp, fun a ha b hb => ?_⟩
    simp only [List.map_cons, List.map_nil, List.mem_singleton] at hb
    subst hb
    rintro rfl
    exact hn ha
  · by_cases hkl : k < es.length
    · rw [List.getElem?_append_left hkl] at hk
      exact List.mem_append_left _ (h.hit k x hk)
    · rw [List.getElem?_append_right (by omega)] at hk
      have hl := (List.getElem?_eq_some_iff.1 hk).1
      simp only [List.length_singleton] at hl
      have e0 : k = es.length := by omega
      subst e0
      simp only [Nat.sub_self, List.getElem?_cons_zero, Option.some.injEq] at hk
      subst hk
      exact List.mem_append_right _ (by simp)
  · rw [List.map_append, List.mem_append] at htm
    rcases htm with h1 | h1
    · obtain ⟨x, hx, he⟩ := h.back t h1
      exact ⟨x, List.mem_append_left _ hx, he⟩
    · simp only [List.map_cons, List.map_nil, List.mem_singleton] at h1
      exact ⟨e, List.mem_append_right _ (by simp), h1.symm⟩

theorem allc_append (es fs : List HE) : allc (es ++ fs) = allc es ++ allc fs := by unfold allc; rw [List.flatMap_append]

/-- The first so many of a row. -/
theorem Own.cut {E : TypeId} {size n : Nat} {F : Nat → Prop} {w : World} {g cap : Nat} {xs : List Value} (h : Own E size F w (.slice (some ⟨g, 0, none⟩) n cap) n xs) {k : Nat} (hk : k ≤ n) : Own E size F w (.slice (some ⟨g, 0, none⟩) k cap) k (xs.take (k * size)) := by
  obtain ⟨h1, h2⟩ := h
  have hm : k * size ≤ n * size := Nat.mul_le_mul_right _ hk
  refine ⟨by rw [List.length_take, h1]; omega, ?_⟩
  rcases h2 with ⟨h2, _⟩ | ⟨g', cap', cur, hv, hf, hgg, h3, h4, h5, h6⟩
  · cases h2
  · cases hv
    refine .inr ⟨g, cap, cur, rfl, hf, hgg, by omega, h4, h5, ?_⟩
    rw [← h6, List.take_take, Nat.min_eq_left hm]

theorem allc_take {sz : Nat} : ∀ (es : List HE), (∀ e ∈ es, e.cs.length + 1 = sz) → ∀ k, (allc es).take (k * sz) = allc (es.take k)
  | [], _, k => by simp [allc]
  | e :: es, hw, 0 => by simp [allc]
  | e :: es, hw, k + 1 => by
    have ih := allc_take es (fun x hx => hw x (by simp [hx])) k
    have he := hw e (by simp)
    have hl : (ecells e).length = sz := by simp [ecells]; omega
    rw [List.take_succ_cons]
    unfold allc at ih ⊢
    rw [List.flatMap_cons, List.flatMap_cons, ← ih, List.take_append, hl, List.take_of_length_le (by rw [hl, Nat.succ_mul]; omega)]
    congr 2
    rw [Nat.succ_mul]
    omega

theorem own_neT {TH R : TypeId} {sz : Nat} {F : Nat → Prop} {w : World} {h : Nat} {cs : Array Value} {fz : Nat × Nat} (hh : w.heap[h]? = some (.cells cs TH fz)) (hne : TH ≠ R) {v : Value} {n : Nat} {xs : List Value} (hv : Own R sz F w v n xs) : v.ownBlock ≠ some h := by
  intro hk
  rcases hv.2 with ⟨rfl, _⟩ | ⟨g, cap, cur, rfl, _, hg, _⟩
  · cases hk
  · simp only [Value.ownBlock, Option.some.injEq] at hk
    subst hk
    exact ne_of_types hh hg hne rfl
theorem own_neM {R : TypeId} {sz : Nat} {F : Nat → Prop} {w : World} {bm : Nat} {m : List (Int × Value)} (hh : HasMap w bm m) {v : Value} {n : Nat} {xs : List Value} (hv : Own R sz F w v n xs) : v.ownBlock ≠ some bm := by
  intro hk
  rcases hv.2 with ⟨rfl, _⟩ | ⟨g, cap, cur, rfl, _, hg, _⟩
  · cases hk
  · simp only [Value.ownBlock, Option.some.injEq] at hk
    subst hk
    exact hh.ne hg rfl

end Go.Sb
