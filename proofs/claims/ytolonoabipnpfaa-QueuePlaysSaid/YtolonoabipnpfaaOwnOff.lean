/- Slices of one's own that may begin within their block: what append and a cut ahead do to them. -/
import Derived.Test.YtolonoabipnpfaaOwnStep
namespace Go.Sb
open Go.RowKit

/-- v is nil, or n elements, the cells xs, at some offset of a block of its own; F holds of the block. -/
def OwnO (E : TypeId) (size : Nat) (F : Nat → Prop) (w : World) (v : Value) (n : Nat) (xs : List Value) : Prop :=
  xs.length = n * size ∧ ((v = .slice none 0 0 ∧ n = 0) ∨
    ∃ g off cap cur, v = .slice (some ⟨g, off, none⟩) n cap ∧ F g ∧ w.heap[g]? = some (.cells cur E (0, 0)) ∧ n ≤ cap ∧ cap ≤ maxLen ∧ off + cap * size ≤ cur.size ∧ (cur.toList.drop off).take (n * size) = xs)

section
variable {E : TypeId} {size : Nat} {F G : Nat → Prop} {w w' : World} {v : Value} {n : Nat} {xs : List Value}

theorem OwnO.nil (E : TypeId) (size : Nat) (F : Nat → Prop) (w : World) : OwnO E size F w (.slice none 0 0) 0 [] := ⟨by simp, .inl ⟨rfl, rfl⟩⟩

theorem OwnO.mono (h : OwnO E size F w v n xs) (hF : ∀ k, k < w.heap.size → F k → G k) : OwnO E size G w v n xs := by
  obtain ⟨h1, h2⟩ := h
  refine ⟨h1, h2.imp id ?_⟩
  rintro ⟨g, off, cap, cur, hv, hf, hg, r⟩
  exact ⟨g, off, cap, cur, hv, hF g (lt_of_heap hg) hf, hg, r⟩

theorem OwnO.of (h : OwnO E size F w v n xs) (hk : ∀ k, k < w.heap.size → v.ownBlock = some k → w'.heap[k]? = w.heap[k]?) : OwnO E size F w' v n xs := by
  obtain ⟨h1, h2⟩ := h
  refine ⟨h1, h2.imp id ?_⟩
  rintro ⟨g, off, cap, cur, rfl, hf, hg, r⟩
  exact ⟨g, off, cap, cur, rfl, hf, (hk g (lt_of_heap hg) rfl).trans hg, r⟩

theorem OwnO.block (h : OwnO E size F w v n xs) : ∀ k, v.ownBlock = some k → F k ∧ ∃ cur, w.heap[k]? = some (.cells cur E (0, 0)) := by
  intro k hk
  rcases h.2 with ⟨rfl, _⟩ | ⟨g, off, cap, cur, rfl, hf, hg, r⟩
  · cases hk
  · simp only [Value.ownBlock, Option.some.injEq] at hk
    subst hk
    exact ⟨hf, _, hg⟩

theorem OwnO.shape (h : OwnO E size F w v n xs) : ∃ ad cap, v = .slice ad n cap ∧ n ≤ cap := by
  rcases h.2 with ⟨rfl, rfl⟩ | ⟨g, off, cap, cur, rfl, _, _, h3, _⟩
  · exact ⟨none, 0, rfl, Nat.le_refl _⟩
  · exact ⟨_, cap, rfl, h3⟩

theorem OwnO.at (h : OwnO E size F w v n xs) (hn : 0 < n) : ∃ g off cap, v = .slice (some ⟨g, off, none⟩) n cap ∧ n ≤ cap ∧ cap ≤ maxLen ∧ (∀ j u, xs[j]? = some u → w.cell? ⟨g, off + j, none⟩ = some u) := by
  rcases h.2 with ⟨rfl, rfl⟩ | ⟨g, off, cap, cur, rfl, _, hg, h3, h4, h5, h6⟩
  · omega
  · refine ⟨g, off, cap, rfl, h3, h4, fun j u hu => ?_⟩
    rw [cell_of hg]
    rw [← h6, List.getElem?_take] at hu
    split at hu
    · rw [List.getElem?_drop] at hu
      rw [← hu]
      simp
    · cases hu

/-- its first element is cut off -/
theorem OwnO.tail {g off cap : Nat} (h : OwnO E size F w (.slice (some ⟨g, off, none⟩) (n + 1) cap) (n + 1) xs) : OwnO E size F w (.slice (some ⟨g, off + size, none⟩) n (cap - 1)) n (xs.drop size) := by
  obtain ⟨h1, h2⟩ := h
  rcases h2 with ⟨h2, _⟩ | ⟨g', off', cap', cur, hv, hf, hg, h3, h4, h5, h6⟩
  · cases h2
  · cases hv
    refine ⟨by rw [List.length_drop, h1, Nat.add_mul]; omega, .inr ⟨g, _, _, cur, rfl, hf, hg, by omega, by omega, ?_, ?_⟩⟩
    · obtain ⟨c, rfl⟩ : ∃ c, cap = c + 1 := ⟨cap - 1, by omega⟩
      rw [Nat.add_mul] at h5
      simp
      omega
    · rw [← h6, List.drop_take, List.drop_drop]
      congr 1
      rw [Nat.add_mul]
      omega

theorem Own.off (h : Own E size F w v n xs) : OwnO E size F w v n xs := by
  obtain ⟨h1, h2⟩ := h
  refine ⟨h1, h2.imp id ?_⟩
  rintro ⟨g, cap, cur, hv, hf, hg, h3, h4, h5, h6⟩
  exact ⟨g, 0, cap, cur, hv, hf, hg, h3, h4, by omega, by simpa using h6⟩
end

section
variable {P : Program} (w : World)

theorem run_append_room_off (t ty e : TypeId) (i : TypeInfo) (ht : P.underlying t = some (.slice e)) (hi : P.info? e = some i)
    (g off sLen sCap : Nat) (cur : Array Value) (hg : w.heap[g]? = some (.cells cur e (0, 0)))
    (a : Addr) (m c : Nat) (news : List Value) (hl : news.length = m * i.size) (hnews : ∀ j u, news[j]? = some u → w.cell? (a.add j) = some u) (h1 : ∀ u ∈ news, u.oneCell' = true)
    (hroom : sLen + m ≤ sCap) (hfit : off + sLen * i.size + news.length ≤ cur.size) :
    (Builtin.append_ #[t, t] ty #[.slice (some ⟨g, off, none⟩) sLen sCap, .slice (some a) m c]).run P w =
      .ok (.slice (some ⟨g, off, none⟩) (sLen + m) sCap) (w.setRow g (cur.toList.take (off + sLen * i.size) ++ news ++ cur.toList.drop (off + sLen * i.size + news.length)).toArray) := by
  have hf := run_firstCells_some (P := P) w i.size m a m c news hl hnews
  have hst := run_storeCells_at P g (off + sLen * i.size) e news 0 cur w hg (by simpa using hfit) h1
  simp only [Nat.add_zero] at hst
  simp [Builtin.append_, run_underlying ht, sizeOf, typeInfo, hi, Builtin.lenOf, hroom, hf, Addr.add_lit, hst]

theorem run_append_OwnO {F : Nat → Prop} (t ty E : TypeId) (i : TypeInfo) (z : Value) (size bytes : Nat) (ht : P.underlying t = some (.slice E)) (hi : P.info? E = some i) (hz : i.zero = some z)
    (hsize : i.size = size) (hby : i.bytes = bytes) (hzs : z.cells.size = size) (hsz : 0 < size)
    (v : Value) (n : Nat) (xs : List Value) (hown : OwnO E size F w v n xs) (x : Value) (m : Nat) (news : List Value) (hs : Src w x m size news) (hm : 0 < m)
    (h63 : n + m ≤ maxLen) (hbytes : ((n + m) + (n + m) / 4 + 192) * bytes ≤ 281474976710656) :
    ∃ v' w', (Builtin.append_ #[t, t] ty #[v, x]).run P w = .ok v' w' ∧ OwnO E size (ex F w) w' v' (n + m) (xs ++ news) ∧ Fr (fun k => v.ownBlock = some k) w w' := by
  rcases hown.2 with ⟨rfl, rfl⟩ | ⟨g, off, cap, cur, rfl, hbg, hg, hnc, hcm, hcs, htake⟩
  · have hx : xs = [] := List.eq_nil_of_length_eq_zero (by simpa using hown.1)
    subst hx
    obtain ⟨v', w', h1, h2, h3, _⟩ := run_append_Own (P := P) w t ty E i z size bytes ht hi hz hsize hby hzs hsz _ _ _ (Own.nil E size F w) x m news hs h63 hbytes
    exact ⟨v', w', h1, h2.off, h3⟩
  obtain ⟨hl, h1, hx⟩ := hs
  rcases hx with ⟨c, rfl, rfl⟩ | ⟨a, c, rfl, hnews⟩
  · omega
  subst hsize
  subst hby
  have hsmall : n + m ≤ 9223372036854775807 := by simp only [maxLen] at h63; omega
  have hlen : (xs ++ news).length = (n + m) * i.size := by rw [List.length_append, hown.1, hl, Nat.add_mul]
  by_cases hroom : n + m ≤ cap
  · have hfit : off + n * i.size + news.length ≤ cur.size := by
      rw [hl, Nat.add_assoc, ← Nat.add_mul]
      exact Nat.le_trans (Nat.add_le_add_left (Nat.mul_le_mul_right _ hroom) _) hcs
    have hr := run_append_room_off (P := P) w t ty E i ht hi g off n cap cur hg a m c news hl hnews h1 hroom hfit
    refine ⟨_, _, hr, ⟨hlen, .inr ⟨g, off, cap, _, rfl, .inl hbg, setRow_heap w g cur _ E _ hg, hroom, hcm, ?_, ?_⟩⟩, ⟨rfl, rfl, rfl, by simp, fun k hk _ => setRow_other w g k _ (fun e => by simp [Value.ownBlock, e] at *)⟩⟩
    · simp only [List.size_toArray, List.length_append, List.length_take, List.length_drop, Array.length_toList]
      omega
    · have ho : off ≤ (cur.toList.take (off + n * i.size)).length := by rw [List.length_take, Array.length_toList]; omega
      rw [List.append_assoc, List.drop_append_of_le_length ho, List.drop_take, Nat.add_sub_cancel_left, htake, ← List.append_assoc, ← hlen]
      exact List.take_left
  · have holds : ∀ j u, xs[j]? = some u → w.cell? ((⟨g, off, none⟩ : Addr).add j) = some u := fun j u hu => by
      rw [show ((⟨g, off, none⟩ : Addr).add j) = ⟨g, off + j, none⟩ from Addr.add_lit _ _ _, cell_of hg]
      rw [← htake, List.getElem?_take] at hu
      split at hu
      · rw [List.getElem?_drop] at hu
        rw [← hu]
        simp
      · cases hu
    have hr := run_append_grow (P := P) w t ty E i z ht hi hz ⟨g, off, none⟩ n cap xs hown.1 holds a m c news hl hnews (by omega) (by omega) (growslice_fits_wide (by omega) hbytes)
    have hge := grownCap_ge w (n + m) cap E
    have hcm' : grownCap w (n + m) cap E ≤ maxLen := grownCap_le_maxLen w (n + m) cap E h63
    refine ⟨_, _, hr, ⟨hlen, .inr ⟨w.heap.size, 0, _, _, rfl, .inr (Nat.le_refl _), heap_alloc_eq w.drew _, hge, hcm', ?_, ?_⟩⟩, ((Fr.refl _ _).drew).alloc _⟩
    · simp only [Array.size_append, List.size_toArray, size_zeroCells, hzs, hown.1, hl, ← Nat.add_mul, Nat.zero_add]
      exact Nat.mul_le_mul_right _ (by omega)
    · simp only [Array.toList_append, List.append_assoc, List.drop_zero]
      rw [← List.append_assoc, ← hlen]
      exact List.take_left

theorem step_append_OwnO {ops : Array Oper} {o : Oper} {a : Act} {w : World} {K : Act → World → Prop} {Q : Exit → Act → World → Prop} {R : Prop}
    (hg : o.guard = none) (so xo : Operand) (t : TypeId) (hop : o.op = .call { callee := .builtin .append, args := #[so, xo], argTypes := #[t, t] })
    {F : Nat → Prop} (E : TypeId) (z : Value) (size bytes : Nat) (ht : P.underlying t = some (.slice E)) (hi : (P.info? E).map (fun i => (i.zero, i.size, i.bytes)) = some (some z, size, bytes))
    (hzs : z.cells.size = size) (hsz : 0 < size)
    (v : Value) (n : Nat) (xs : List Value) (hv : a.eval so = v) (hown : OwnO E size F w v n xs) (x : Value) (m : Nat) (news : List Value) (hx : a.eval xo = x) (hs : Src w x m size news) (hm : 0 < m)
    (h63 : n + m ≤ maxLen) (hbytes : ((n + m) + (n + m) / 4 + 192) * bytes ≤ 281474976710656)
    (hK : ∀ v' w', OwnO E size (ex F w) w' v' (n + m) (xs ++ news) → Fr (fun k => v.ownBlock = some k) w w' → K (a.put o.dst v') w') :
    if Region.wanted o (yielded ops a.tmps) = true then Oper.wp P o a w K Q else R := by
  have hw : Region.wanted o (yielded ops a.tmps) = true := by simp [Region.wanted, hg]
  rw [if_pos hw]
  obtain ⟨i, hi0, hz0, hz1, hz2⟩ := info_parts hi
  obtain ⟨v', w', hrun, r1, r2⟩ := run_append_OwnO (P := P) w t o.type E i z size bytes ht hi0 hz0 hz1 hz2 hzs hsz v n xs hown x m news hs hm h63 hbytes
  unfold Oper.wp
  simp [execOp, hop, resolve, invoke, builtin, hv, hx, hrun, Result.andThen]
  exact hK _ _ r1 r2
end
end Go.Sb
