/- Slices that the call itself has made: what append does to them. -/
import Derived.Test.YtikimfdijkejpaaBase
import Derived.Deep.DeepAppendWide
namespace Go.Sb
open Go.RowKit

/-- v is nil, or the head of a row of its own, of n elements, the cells xs; F holds of its block. -/
def Own (E : TypeId) (size : Nat) (F : Nat → Prop) (w : World) (v : Value) (n : Nat) (xs : List Value) : Prop :=
  xs.length = n * size ∧ ((v = .slice none 0 0 ∧ n = 0) ∨
    ∃ g cap cur, v = .slice (some ⟨g, 0, none⟩) n cap ∧ F g ∧ w.heap[g]? = some (.cells cur E (0, 0)) ∧ n ≤ cap ∧ cap ≤ maxLen ∧ cur.size = cap * size ∧ cur.toList.take (n * size) = xs)

section
variable {E : TypeId} {size : Nat} {F G : Nat → Prop} {w w' : World} {v : Value} {n : Nat} {xs : List Value}

theorem Own.nil (E : TypeId) (size : Nat) (F : Nat → Prop) (w : World) : Own E size F w (.slice none 0 0) 0 [] := ⟨by simp, .inl ⟨rfl, rfl⟩⟩

/-- an empty row just laid -/
theorem Own.empty (E : TypeId) (size : Nat) (F : Nat → Prop) (w : World) (hF : F w.heap.size) : Own E size F (w.alloc (.cells #[] E)) (.slice (some ⟨w.heap.size, 0, none⟩) 0 0) 0 [] :=
  ⟨by simp, .inr ⟨w.heap.size, 0, #[], rfl, hF, heap_alloc_eq _ _, by simp, by simp [maxLen], by simp, by simp⟩⟩

theorem Own.mono (h : Own E size F w v n xs) (hF : ∀ k, k < w.heap.size → F k → G k) : Own E size G w v n xs := by
  obtain ⟨h1, h2⟩ := h
  refine ⟨h1, h2.imp id ?_⟩
  rintro ⟨g, cap, cur, hv, hf, hg, r⟩
  exact ⟨g, cap, cur, hv, hF g (lt_of_heap hg) hf, hg, r⟩

theorem Own.of (h : Own E size F w v n xs) (hk : ∀ k, k < w.heap.size → v.ownBlock = some k → w'.heap[k]? = w.heap[k]?) : Own E size F w' v n xs := by
  obtain ⟨h1, h2⟩ := h
  refine ⟨h1, h2.imp id ?_⟩
  rintro ⟨g, cap, cur, rfl, hf, hg, r⟩
  exact ⟨g, cap, cur, rfl, hf, (hk g (lt_of_heap hg) rfl).trans hg, r⟩

theorem Own.block (h : Own E size F w v n xs) : ∀ k, v.ownBlock = some k → F k ∧ k < w.heap.size := by
  intro k hk
  rcases h.2 with ⟨rfl, _⟩ | ⟨g, cap, cur, rfl, hf, hg, r⟩
  · cases hk
  · simp only [Value.ownBlock, Option.some.injEq] at hk
    subst hk
    exact ⟨hf, lt_of_heap hg⟩

theorem Own.fr (h : Own E size F w v n xs) (hf : Fr G w w') (hn : ∀ k, k < w.heap.size → F k → ¬ G k) : Own E size F w' v n xs :=
  h.of (fun k hk hb => hf.block k hk (hn k hk (h.block k hb).1))

theorem Own.drewN (h : Own E size F w v n xs) (_k : Nat) : Own E size F (w.drewN _k) v n xs := h
theorem Own.drew (h : Own E size F w v n xs) : Own E size F w.drew v n xs := h
theorem Own.alloc (h : Own E size F w v n xs) (o : Obj) : Own E size F (w.alloc o) v n xs := h.of (fun _ hk _ => heap_alloc_lt _ _ _ hk)

theorem Own.row (h : Own E size F w v n xs) : w.ownsRow 0 E size v n xs := by
  obtain ⟨h1, h2⟩ := h
  refine ⟨h1, h2.imp id ?_⟩
  rintro ⟨g, cap, cur, hv, hf, hg, r⟩
  exact ⟨g, cap, cur, hv, Nat.zero_le _, hg, r⟩

/-- its cells -/
theorem Own.cell (h : Own E size F w v n xs) {g : Nat} (hg : v.ownBlock = some g) {j : Nat} {u : Value} (hu : xs[j]? = some u) : w.cell? ⟨g, j, none⟩ = some u := by
  have := h.row.cells hg j u hu
  rwa [show ((⟨g, 0, none⟩ : Addr).add j) = ⟨g, j, none⟩ from by unfold Addr.add; split <;> simp_all] at this

theorem Own.frozen (h : Own E size F w v n xs) {g : Nat} (hg : v.ownBlock = some g) (j : Nat) : w.frozen? ⟨g, j, none⟩ = false := by
  rcases h.2 with ⟨rfl, _⟩ | ⟨g', cap, cur, rfl, hf, hgg, r⟩
  · cases hg
  · simp only [Value.ownBlock, Option.some.injEq] at hg
    subst hg
    exact frozen_of hgg j

theorem Own.set {u : Value} (h : Own E 1 F w v n xs) {g : Nat} (hg : v.ownBlock = some g) {k : Nat} (hk : k < n) : Own E 1 F (w.setCell ⟨g, k, none⟩ u) v n (xs.set k u) := by
  obtain ⟨h1, h2⟩ := h
  refine ⟨by rw [List.length_set]; exact h1, ?_⟩
  rcases h2 with ⟨rfl, rfl⟩ | ⟨g', cap, cur, rfl, hf, hgg, h3, h4, h5, h6⟩
  · cases hg
  · simp only [Value.ownBlock, Option.some.injEq] at hg
    subst hg
    refine .inr ⟨g', cap, _, rfl, hf, heap_setCell_eq _ _ hgg, h3, h4, by simpa using h5, ?_⟩
    rw [Array.toList_setIfInBounds, List.take_set, h6]

theorem Own.of_row {base g cap : Nat} (h : w.ownsRow base E size (.slice (some ⟨g, 0, none⟩) n cap) n xs) (hF : F g) : Own E size F w (.slice (some ⟨g, 0, none⟩) n cap) n xs := by
  obtain ⟨h1, h2⟩ := h
  refine ⟨h1, .inr ?_⟩
  rcases h2 with ⟨h2, _⟩ | ⟨g', cap', cur, hv, hf, hg, r⟩
  · cases h2
  · cases hv
    exact ⟨g, cap, cur, rfl, hF, hg, r⟩

theorem Own.shape (h : Own E size F w v n xs) : (v = .slice none 0 0 ∧ n = 0 ∧ xs = []) ∨ ∃ g cap, v = .slice (some ⟨g, 0, none⟩) n cap ∧ n ≤ cap ∧ cap ≤ maxLen ∧ v.ownBlock = some g := by
  obtain ⟨h1, h2⟩ := h
  rcases h2 with ⟨rfl, rfl⟩ | ⟨g, cap, cur, rfl, hf, hg, h3, h4, _⟩
  · exact .inl ⟨rfl, rfl, List.eq_nil_of_length_eq_zero (by simpa using h1)⟩
  · exact .inr ⟨g, cap, rfl, h3, h4, rfl⟩
end

section
variable {P : Program} (w : World)

/-- The source of an append: nil, or so many cells at an address. -/
def Src (w : World) (x : Value) (m size : Nat) (news : List Value) : Prop :=
  news.length = m * size ∧ (∀ u ∈ news, u.oneCell' = true) ∧ ((∃ c, x = .slice none m c ∧ m = 0) ∨ ∃ ad c, x = .slice (some ad) m c ∧ ∀ j u, news[j]? = some u → w.cell? (ad.add j) = some u)

theorem run_append_none {v : Value} {n : Nat} {xs : List Value} {E t ty : TypeId} {i : TypeInfo} {size : Nat} {F : Nat → Prop} (ht : P.underlying t = some (.slice E)) (hi : P.info? E = some i) (h : Own E size F w v n xs) (c : Nat) :
    (Builtin.append_ #[t, t] ty #[v, .slice none 0 c]).run P w = .ok v w := by
  rcases h.2 with ⟨rfl, rfl⟩ | ⟨g, cap, cur, rfl, _, _, hnc, _⟩
  · simp [Builtin.append_, run_underlying ht, sizeOf, typeInfo, hi, Builtin.lenOf, Builtin.firstCells]
  · simp [Builtin.append_, run_underlying ht, sizeOf, typeInfo, hi, Builtin.lenOf, Builtin.firstCells, hnc, storeCells]

theorem run_append_Own {F : Nat → Prop} (t ty E : TypeId) (i : TypeInfo) (z : Value) (size bytes : Nat) (ht : P.underlying t = some (.slice E)) (hi : P.info? E = some i) (hz : i.zero = some z)
    (hsize : i.size = size) (hby : i.bytes = bytes) (hzs : z.cells.size = size) (hsz : 0 < size)
    (v : Value) (n : Nat) (xs : List Value) (hown : Own E size F w v n xs) (x : Value) (m : Nat) (news : List Value) (hs : Src w x m size news)
    (h63 : n + m ≤ maxLen) (hbytes : ((n + m) + (n + m) / 4 + 192) * bytes ≤ 281474976710656) :
    ∃ v' w', (Builtin.append_ #[t, t] ty #[v, x]).run P w = .ok v' w' ∧ Own E size (ex F w) w' v' (n + m) (xs ++ news) ∧ Fr (fun k => v.ownBlock = some k) w w' ∧
      (v' = .slice none 0 0 ↔ v = .slice none 0 0 ∧ m = 0) ∧ (v'.ownBlock = v.ownBlock ∨ (Fr (fun _ => False) w w' ∧ v'.ownBlock = some w.heap.size)) := by
  obtain ⟨hl, h1, hx⟩ := hs
  rcases hx with ⟨c, rfl, rfl⟩ | ⟨a, c, rfl, hnews⟩
  · have hn : news = [] := List.eq_nil_of_length_eq_zero (by simpa using hl)
    subst hn
    refine ⟨v, w, run_append_none w ht hi hown c, by simpa using hown.mono (fun _ _ h => ex_of h), Fr.refl _ _, by simp, .inl rfl⟩
  subst hsize
  subst hby
  have hsmall : n + m ≤ 9223372036854775807 := by simp only [maxLen] at h63; omega
  have hlen : (xs ++ news).length = (n + m) * i.size := by rw [List.length_append, hown.1, hl, Nat.add_mul]
  have grown : ∀ (old : Nat), old < n + m →
      Own E i.size (ex F w) (w.drew.alloc (.cells (xs.toArray ++ news.toArray ++ Builtin.zeroCells z.cells (grownCap w (n + m) old E - (n + m))) E))
        (.slice (some ⟨w.heap.size, 0, none⟩) (n + m) (grownCap w (n + m) old E)) (n + m) (xs ++ news) ∧
      Fr (fun _ => False) w (w.drew.alloc (.cells (xs.toArray ++ news.toArray ++ Builtin.zeroCells z.cells (grownCap w (n + m) old E - (n + m))) E)) := by
    intro old ho
    have hge := grownCap_ge w (n + m) old E
    have hcm : grownCap w (n + m) old E ≤ maxLen := grownCap_le_maxLen w (n + m) old E h63
    refine ⟨⟨hlen, .inr ⟨w.heap.size, _, _, rfl, .inr (Nat.le_refl _), heap_alloc_eq w.drew _, hge, hcm, ?_, ?_⟩⟩, ((Fr.refl _ _).drew).alloc _⟩
    · simp only [Array.size_append, List.size_toArray, size_zeroCells, hzs, hown.1, hl, ← Nat.add_mul]
      congr 1
      omega
    · simp only [Array.toList_append, List.append_assoc]
      rw [← List.append_assoc, ← hlen]
      exact List.take_left
  rcases hown.2 with ⟨rfl, rfl⟩ | ⟨g, cap, cur, rfl, hbg, hg, hnc, hcm, hcs, htake⟩
  · have hx : xs = [] := List.eq_nil_of_length_eq_zero (by simpa using hown.1)
    subst hx
    by_cases hm : m = 0
    · subst hm
      have hn : news = [] := List.eq_nil_of_length_eq_zero (by simpa using hl)
      subst hn
      refine ⟨.slice none 0 0, w, ?_, Own.nil _ _ _ _, Fr.refl _ _, by simp, .inl rfl⟩
      simp [Builtin.append_, run_underlying ht, sizeOf, typeInfo, hi, Builtin.lenOf, Builtin.firstCells, loadCells, loadCellsFrom]
    · have hr := run_append_nil (P := P) w t ty E i z ht hi hz a m c news hl hnews (by omega) (by omega) (by have hb := hbytes; simp only [Nat.zero_add] at hb; exact Nat.le_trans (Nat.mul_le_mul_right _ (by omega)) hb)
      have hgr := grown 0 (by omega)
      simp only [Nat.zero_add, List.nil_append, Array.empty_append] at hgr ⊢
      exact ⟨_, _, hr, hgr.1, hgr.2.mono (fun _ _ h => h.elim), by simp [hm], .inr ⟨hgr.2, rfl⟩⟩
  · by_cases hroom : n + m ≤ cap
    · have hfit : n * i.size + news.length ≤ cur.size := by rw [hl, hcs, ← Nat.add_mul]; exact Nat.mul_le_mul_right _ hroom
      have hr := run_append_room (P := P) w t ty E i ht hi g n cap cur hg a m c news hl hnews h1 hroom hfit
      refine ⟨_, _, hr, ⟨hlen, .inr ⟨g, cap, _, rfl, .inl hbg, setRow_heap w g cur _ E _ hg, hroom, hcm, ?_, ?_⟩⟩, ⟨rfl, rfl, rfl, by simp, fun k _ hk => setRow_other w g k _ (fun e => hk (by simp [Value.ownBlock, e]))⟩, by simp, .inl rfl⟩
      · simp only [List.size_toArray, List.length_append, List.length_take, List.length_drop, Array.length_toList]
        omega
      · rw [htake, ← hlen]
        exact List.take_left
    · have holds : ∀ j u, xs[j]? = some u → w.cell? ((⟨g, 0, none⟩ : Addr).add j) = some u := hown.row.cells (g := g) rfl
      have hr := run_append_grow (P := P) w t ty E i z ht hi hz ⟨g, 0, none⟩ n cap xs hown.1 holds a m c news hl hnews (by omega) (by omega) (growslice_fits_wide (by omega) hbytes)
      have hgr := grown cap (by omega)
      exact ⟨_, _, hr, hgr.1, hgr.2.mono (fun _ _ h => h.elim), by simp, .inr ⟨hgr.2, rfl⟩⟩

variable {ops : Array Oper} {rest : List Oper} {o : Oper} {a : Act} {Q : Exit → Act → World → Prop}

/-- 'append' at the operation. -/
theorem wpList_append_Own (hg : o.guard = none) (so xo : Operand) (t : TypeId) (hop : o.op = .call { callee := .builtin .append, args := #[so, xo], argTypes := #[t, t] })
    {F : Nat → Prop} (E : TypeId) (z : Value) (size bytes : Nat) (ht : P.underlying t = some (.slice E)) (hi : (P.info? E).map (fun i => (i.zero, i.size, i.bytes)) = some (some z, size, bytes))
    (hzs : z.cells.size = size) (hsz : 0 < size)
    (v : Value) (n : Nat) (xs : List Value) (hv : a.eval so = v) (hown : Own E size F w v n xs) (x : Value) (m : Nat) (news : List Value) (hx : a.eval xo = x) (hs : Src w x m size news)
    (h63 : n + m ≤ maxLen) (hbytes : ((n + m) + (n + m) / 4 + 192) * bytes ≤ 281474976710656)
    (hK : ∀ v' w', Own E size (ex F w) w' v' (n + m) (xs ++ news) → Fr (fun k => v.ownBlock = some k) w w' → (v' = .slice none 0 0 ↔ v = .slice none 0 0 ∧ m = 0) →
      (v'.ownBlock = v.ownBlock ∨ (Fr (fun _ => False) w w' ∧ v'.ownBlock = some w.heap.size)) → wpList P ops Q rest (a.put o.dst v') w') :
    wpList P ops Q (o :: rest) a w := by
  refine wpList_plain hg fun K' hK' => ?_
  obtain ⟨i, hi0, hz0, hz1, hz2⟩ := info_parts hi
  obtain ⟨v', w', hrun, r1, r2, r3, r4⟩ := run_append_Own (P := P) w t o.type E i z size bytes ht hi0 hz0 hz1 hz2 hzs hsz v n xs hown x m news hs h63 hbytes
  unfold Oper.wp
  simp [execOp, hop, resolve, invoke, builtin, hv, hx, hrun, Result.andThen]
  exact hK' _ _ (hK v' w' r1 r2 r3 r4)
end
end Go.Sb
