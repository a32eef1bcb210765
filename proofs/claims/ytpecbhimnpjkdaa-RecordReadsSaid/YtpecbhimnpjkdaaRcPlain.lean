/- What is put is got, and what is got is put: plain. -/
import Derived.Test.YtpecbhimnpjkdaaRcGot
namespace Go.Proofs.Ytpecbhimnpjkdaa
open Go.RowKit Go.Sb

theorem numsL_cons (ns : List Int) (a : Nat) (l : List Nat) : numsL ns (a :: l) = le (at0 ns a).toNat 8 ++ numsL ns l := by
  unfold numsL
  rw [List.map_cons, List.flatten_cons]

theorem numsL_drop (ns : List Int) (l : List Nat) (t : List UInt8) (j : Nat) (hj : j ≤ l.length) : (numsL ns l ++ t).drop (8 * j) = numsL ns (l.drop j) ++ t := by
  induction j generalizing l with
  | zero => simp
  | succ j ih =>
    cases l with
    | nil => simp at hj
    | cons a l =>
      rw [numsL_cons, List.append_assoc, List.drop_succ_cons, ← ih l (by simpa using hj), show 8 * (j + 1) = 8 + 8 * j by omega, ← List.drop_drop]
      congr 1

theorem numAt_put {ns : List Int} {l : List Nat} {t : List UInt8} {j : Nat} (hj : j < l.length) (h : 0 ≤ at0 ns l[j] ∧ at0 ns l[j] ≤ 4611686018427387903) : (numAt (numsL ns l ++ t) j : Int) = at0 ns l[j] := by
  have hl := le_length (at0 ns l[j]).toNat 8
  unfold numAt
  rw [numsL_drop ns l t j (by omega), List.drop_eq_getElem_cons hj, numsL_cons, List.append_assoc]
  have : (le (at0 ns l[j]).toNat 8 ++ (numsL ns (l.drop (j + 1)) ++ t)).take 8 = le (at0 ns l[j]).toNat 8 := by
    conv => lhs; rw [← hl]
    exact List.take_left
  rw [this, un_le _ 8 (by omega)]
  omega

theorem putAt_only {ns : List Int} {l : List Nat} {r : List UInt8} (h16 : ∀ x ∈ l, x < 16) (h : ∀ j (hj : j < l.length), (numAt r j : Int) = at0 ns l[j]) : ∀ j, j ≤ l.length → putAt l r j = onlyTo ns l j
  | 0, _ => by rw [putAt, onlyTo_zero]
  | j + 1, hj => by
    have hlt : j < l.length := hj
    rw [putAt, putAt_only h16 h j (by omega), ← onlyTo_step hlt (h16 _ (List.getElem_mem hlt)), h j hlt]
    congr 1
    simp [hlt]

theorem ofList_lt (k : Int) : ∀ x ∈ ofList k, x < 16 := by
  unfold ofList
  split
  · decide
  · split
    · decide
    · split
      · decide
      · split <;> decide

theorem kindB_toNat {k : Int} (hk : Kind k) : ((kindB k).toNat : Int) = k := by
  rcases hk with rfl | rfl | rfl | rfl <;> rfl

theorem got_put {k : Int} {ns : List Int} {tube : ByteArray} {xs : List UInt8} (h : checkE k ns tube xs.length = 0) : getG (putL k ns tube xs) = ⟨k, ns, tube, xs, 0⟩ := by
  obtain ⟨hk, hn, hm, ht⟩ := check0 h
  have hp := check_pos h
  have htx := check_text h
  have hll : (putL k ns tube xs) = kindB k :: (numsL ns (ofList k) ++ (if k = 2 then textL tube xs else [])) := rfl
  generalize htt : (if k = 2 then textL tube xs else []) = t at hll
  rw [hll, getG, kindB_toNat hk, kindG, if_neg (fun hh => hh hk)]
  have hlen := numsL_length ns (ofList k)
  rw [if_neg (by rw [List.length_append, hlen]; omega)]
  have hnum : ∀ j (hj : j < (ofList k).length), (numAt (numsL ns (ofList k) ++ t) j : Int) = at0 ns (ofList k)[j] := fun j hj => numAt_put hj (hp _ (List.getElem_mem hj))
  rw [if_neg (by
    rw [Bool.not_eq_false]
    unfold numsOk
    refine List.all_eq_true.2 (fun j hj => ?_)
    have hj' : j < (ofList k).length := by simpa using hj
    have h1 := hnum j hj'
    have h2 := hp _ (List.getElem_mem hj')
    simp only [decide_eq_true_eq]
    omega)]
  rw [putAt_only (ofList_lt k) hnum _ (Nat.le_refl _), numsL_drop _ _ _ _ (Nat.le_refl _), List.drop_length]
  have hon : onlyTo ns (ofList k) (ofList k).length = ns := hn.symm
  rw [hon]
  have hz : numsL ns [] ++ t = t := rfl
  rw [hz, restG]
  by_cases h2 : k = 2
  · subst h2
    rw [if_pos rfl] at htt ⊢
    obtain ⟨hs1, hs2⟩ := htx rfl
    have hz : (UInt8.ofNat tube.size).toNat = tube.size := by
      rw [UInt8.toNat_ofNat']
      omega
    have hd : tube.data.toList.length = tube.size := rfl
    rw [← htt, textL, List.singleton_append, textG, hz, if_neg (by rw [List.length_append, hd]; omega)]
    have e1 : (tube.data.toList ++ xs).take tube.size = tube.data.toList := by rw [← hd]; exact List.take_left
    have e2 : (tube.data.toList ++ xs).drop tube.size = xs := by rw [← hd]; exact List.drop_left
    rw [e1, e2, finG]
    have e3 : (⟨tube.data.toList.toArray⟩ : ByteArray) = tube := rfl
    rw [e3, if_pos h]
  · rw [if_neg h2] at htt ⊢
    subst htt
    rw [if_pos rfl]
    unfold textsB at ht
    rw [if_neg h2, Bool.and_eq_true] at ht
    have hx : xs = [] := List.eq_nil_of_length_eq_zero (by have := ht.2; simp at this; simpa using this)
    have htb : tube = ⟨#[]⟩ := by
      have h1 : tube.toList = [] := by simpa using ht.1
      rw [ByteArray.toList_eq] at h1
      obtain ⟨⟨l⟩⟩ := tube
      have h2 : l = [] := h1
      rw [h2]
    subst hx
    subst htb
    rw [finG, if_pos h]

theorem kind_byte_back (c : UInt8) : kindB (c.toNat : Int) = c := by
  unfold kindB
  rw [Int.toNat_natCast, UInt8.ofNat_toNat]

theorem nodup_ofList (k : Int) : (ofList k).Nodup := by
  unfold ofList
  split
  · decide
  · split
    · decide
    · split
      · decide
      · split <;> decide

theorem putAt_get {l : List Nat} {r : List UInt8} (hn : l.Nodup) (h16 : ∀ x ∈ l, x < 16) : ∀ j, j ≤ l.length → ∀ i (hi : i < l.length), i < j → at0 (putAt l r j) l[i] = (numAt r i : Int)
  | 0, _ => fun i _ h => absurd h (by omega)
  | j + 1, hj => fun i hi hij => by
    have hlt : j < l.length := hj
    have hg : l.getD j 0 = l[j] := by simp [hlt]
    rw [putAt, hg]
    have hx : l[i] < 16 := h16 _ (List.getElem_mem hi)
    unfold at0
    rw [List.getD_eq_getElem?_getD, List.getElem?_set]
    by_cases he : i = j
    · subst he
      rw [if_pos rfl, if_pos (by rw [putAt_length]; exact hx)]
      rfl
    · rw [if_neg (fun h => he ((List.getElem_inj hn).1 h.symm))]
      have := putAt_get (r := r) hn h16 j (by omega) i hi (by omega)
      unfold at0 at this
      rw [List.getD_eq_getElem?_getD] at this
      exact this

theorem nums_back {l : List Nat} {r : List UInt8} {ns : List Int} (hlen : 8 * l.length ≤ r.length) (h : ∀ i (hi : i < l.length), at0 ns l[i] = (numAt r i : Int)) : numsL ns l = r.take (8 * l.length) := by
  induction l generalizing r with
  | nil => simp [numsL]
  | cons a l ih =>
    have h0 := h 0 (by simp)
    have hl8 : (r.take 8).length = 8 := by
      rw [List.length_take]
      simp at hlen
      omega
    have e0 : le (at0 ns a).toNat 8 = r.take 8 := by
      have : at0 ns a = (un (r.take 8) : Int) := h0
      rw [this, Int.toNat_natCast]
      have := le_un (r.take 8)
      rw [hl8] at this
      exact this
    have e1 := ih (r := r.drop 8) (by simp at hlen ⊢; omega) (fun i hi => by
      have := h (i + 1) (by simpa using hi)
      rw [List.getElem_cons_succ] at this
      rw [this]
      unfold numAt
      rw [List.drop_drop, show 8 + 8 * i = 8 * (i + 1) by omega])
    rw [numsL_cons, e0, e1, List.length_cons, show 8 * (l.length + 1) = 8 + 8 * l.length by omega, List.take_add]

theorem fin_ok {k : Int} {ns : List Int} {tube : ByteArray} {body : List UInt8} (h : (finG k ns tube body).err = 0) : checkE k ns tube body.length = 0 ∧ finG k ns tube body = ⟨k, ns, tube, body, 0⟩ := by
  unfold finG at h ⊢
  by_cases hc : checkE k ns tube body.length = 0
  · exact ⟨hc, if_pos hc⟩
  · rw [if_neg hc] at h
    cases h

theorem put_got {xs : List UInt8} (h : (getG xs).err = 0) : ∃ k ns tube body, getG xs = ⟨k, ns, tube, body, 0⟩ ∧ checkE k ns tube body.length = 0 ∧ putL k ns tube body = xs ∧ ns.length = 16 := by
  cases xs with
  | nil => cases h
  | cons c r =>
    rw [getG, kindG] at h ⊢
    by_cases hk : Kind (c.toNat : Int)
    · rw [if_neg (fun hh => hh hk)] at h ⊢
      by_cases hl : r.length < 8 * (ofList (c.toNat : Int)).length
      · rw [if_pos hl] at h; cases h
      · rw [if_neg hl] at h ⊢
        by_cases hn : numsOk r (ofList (c.toNat : Int)).length = false
        · rw [if_pos hn] at h; cases h
        · rw [if_neg hn] at h ⊢
          have hns := putAt_length (ofList (c.toNat : Int)) r (ofList (c.toNat : Int)).length
          have hget := fun i hi => putAt_get (r := r) (nodup_ofList (c.toNat : Int)) (ofList_lt _) _ (Nat.le_refl _) i hi hi
          have hback := nums_back (by omega) hget
          generalize putAt (ofList (c.toNat : Int)) r (ofList (c.toNat : Int)).length = ns at *
          rw [restG] at h ⊢
          by_cases h2 : (c.toNat : Int) = 2
          · rw [if_pos h2] at h ⊢
            rw [h2] at h hback hk hl ⊢
            generalize hl2 : (ofList 2).length = ll at *
            cases ht : r.drop (8 * ll) with
            | nil => rw [ht] at h; cases h
            | cons z u =>
              rw [ht, textG] at h
              rw [textG]
              by_cases hu : u.length < z.toNat
              · rw [if_pos hu] at h; cases h
              · rw [if_neg hu] at h ⊢
                obtain ⟨hc, he⟩ := fin_ok h
                refine ⟨2, ns, _, _, he, hc, ?_, hns⟩
                have hz : (⟨(u.take z.toNat).toArray⟩ : ByteArray).size = z.toNat := by
                  show (u.take z.toNat).length = _
                  rw [List.length_take]
                  omega
                rw [putL, if_pos rfl, hback, textL, hz, UInt8.ofNat_toNat]
                have e1 : (⟨(u.take z.toNat).toArray⟩ : ByteArray).data.toList = u.take z.toNat := rfl
                rw [e1, List.take_append_drop, List.singleton_append, ← ht, List.take_append_drop, ← h2, kind_byte_back c]
          · rw [if_neg h2] at h ⊢
            by_cases ht : r.drop (8 * (ofList (c.toNat : Int)).length) = []
            · rw [if_pos ht] at h ⊢
              obtain ⟨hc, he⟩ := fin_ok h
              refine ⟨_, ns, _, _, he, hc, ?_, hns⟩
              rw [putL, if_neg h2, hback, List.append_nil, kind_byte_back c]
              rw [List.drop_eq_nil_iff] at ht
              rw [List.take_of_length_le ht]
            · rw [if_neg ht] at h; cases h
    · rw [if_pos hk] at h; cases h

theorem getG_or (xs : List UInt8) : getG xs = noGot ∨ (getG xs).err = 0 := by
  cases xs with
  | nil => exact .inl rfl
  | cons c r =>
    rw [getG, kindG]
    split
    · exact .inl rfl
    · split
      · exact .inl rfl
      · split
        · exact .inl rfl
        · rw [restG]
          split
          · unfold textG
            split
            · exact .inl rfl
            · split
              · exact .inl rfl
              · unfold finG
                split
                · exact .inr rfl
                · exact .inl rfl
          · split
            · unfold finG
              split
              · exact .inr rfl
              · exact .inl rfl
            · exact .inl rfl

theorem putL_length {k : Int} {ns : List Int} {tube : ByteArray} {xs : List UInt8} : (putL k ns tube xs).length = 1 + 8 * (ofList k).length + (if k = 2 then 1 + tube.size + xs.length else 0) := by
  have hd : tube.data.toList.length = tube.size := rfl
  unfold putL textL
  split
  · simp only [List.length_cons, List.length_append, numsL_length, hd, List.length_nil]
    omega
  · simp only [List.length_cons, List.length_append, numsL_length, List.length_nil]
    omega

/-- one byte more or less of what is no whole record is not read -/
theorem got_len {xs : List UInt8} {c : UInt8} {r : List UInt8} (he : xs = c :: r) (hk : Kind (c.toNat : Int)) (h2 : (c.toNat : Int) ≠ 2) (h : r.length ≠ 8 * (ofList (c.toNat : Int)).length) : getG xs = noGot := by
  subst he
  rw [getG, kindG, if_neg (fun hh => hh hk)]
  by_cases hl : r.length < 8 * (ofList (c.toNat : Int)).length
  · rw [if_pos hl]
  · rw [if_neg hl]
    split
    · rfl
    · rw [restG, if_neg h2, if_neg (by rw [List.drop_eq_nil_iff]; omega)]

end Go.Proofs.Ytpecbhimnpjkdaa
