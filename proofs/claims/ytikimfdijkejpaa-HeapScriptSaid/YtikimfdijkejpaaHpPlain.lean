/- Binary heaps of things with tickets, ordered by a key: plain mathematics. -/
namespace Go.Sb

/-- Whether an entry ranks ahead of another one. -/
def aheadB {X : Type} (bf : X → X → Bool) (a b : Int × X) : Bool := bf a.2 b.2 || (!bf b.2 a.2 && decide (a.1 < b.1))

section
variable {X : Type} (key : X → Int)

/-- the order by a key -/
def bk (x y : X) : Bool := decide (key x < key y)

/-- ranks no later -/
def hle (a b : Int × X) : Prop := key a.2 < key b.2 ∨ (key a.2 = key b.2 ∧ a.1 ≤ b.1)

variable {key}
theorem aheadB_iff {a b : Int × X} : aheadB (bk key) a b = true ↔ key a.2 < key b.2 ∨ (key a.2 = key b.2 ∧ a.1 < b.1) := by
  unfold aheadB bk
  simp only [Bool.or_eq_true, Bool.and_eq_true, decide_eq_true_eq, Bool.not_eq_true', decide_eq_false_iff_not]
  omega
theorem hle_of_ahead {a b : Int × X} (h : aheadB (bk key) a b = true) : hle key a b := by
  rw [aheadB_iff] at h
  unfold hle
  omega
theorem hle_of_not {a b : Int × X} (h : aheadB (bk key) a b = false) : hle key b a := by
  have h' : ¬ (aheadB (bk key) a b = true) := by rw [h]; simp
  rw [aheadB_iff] at h'
  unfold hle
  omega
theorem hle.trans {a b c : Int × X} (h : hle key a b) (k : hle key b c) : hle key a c := by
  unfold hle at *
  omega
theorem hle.refl (a : Int × X) : hle key a a := .inr ⟨rfl, Int.le_refl _⟩
end

/-! ### lists -/
section
variable {α : Type}

/-- Two change their places. -/
def swL (L : List α) (i j : Nat) : List α := match L[i]?, L[j]? with
  | some a, some b => (L.set i b).set j a
  | _, _ => L

theorem swL_eq {L : List α} {i j : Nat} {a b : α} (hi : L[i]? = some a) (hj : L[j]? = some b) : swL L i j = (L.set i b).set j a := by
  unfold swL
  rw [hi, hj]

@[simp] theorem swL_length (L : List α) (i j : Nat) : (swL L i j).length = L.length := by
  unfold swL
  split <;> simp

theorem set_perm : ∀ (l : List α) (j : Nat) (x b : α), l[j]? = some b → (b :: l.set j x).Perm (x :: l)
  | [], _, _, _, h => by simp at h
  | y :: l, 0, x, b, h => by
    simp only [List.getElem?_cons_zero, Option.some.injEq] at h
    subst h
    exact List.Perm.swap _ _ _
  | y :: l, j + 1, x, b, h => by
    have ih := set_perm l j x b (by simpa using h)
    rw [List.set_cons_succ]
    exact (List.Perm.swap _ _ _).trans ((ih.cons y).trans (List.Perm.swap _ _ _))

theorem set_set_perm : ∀ (L : List α) (i j : Nat) (a b : α), L[i]? = some a → L[j]? = some b → i < j → ((L.set i b).set j a).Perm L
  | [], _, _, _, _, h, _, _ => by simp at h
  | x :: l, 0, 0, _, _, _, _, h => by omega
  | x :: l, 0, j + 1, a, b, hi, hj, _ => by
    simp only [List.getElem?_cons_zero, Option.some.injEq] at hi
    subst hi
    rw [List.set_cons_zero, List.set_cons_succ]
    exact set_perm l j x b (by simpa using hj)
  | x :: l, i + 1, 0, _, _, _, _, h => by omega
  | x :: l, i + 1, j + 1, a, b, hi, hj, h => by
    rw [List.set_cons_succ, List.set_cons_succ]
    exact (set_set_perm l i j a b (by simpa using hi) (by simpa using hj) (by omega)).cons x

theorem swL_perm (L : List α) (i j : Nat) : (swL L i j).Perm L := by
  unfold swL
  split
  · rename_i a b hi hj
    rcases Nat.lt_trichotomy i j with h | h | h
    · exact set_set_perm L i j a b hi hj h
    · subst h
      rw [hi] at hj
      cases hj
      rw [List.set_set]
      have : L.set i a = L := by
        apply List.ext_getElem?
        intro k
        rw [List.getElem?_set]
        split
        · rename_i h; subst h; split
          · exact hi.symm
          · rename_i h; rw [List.getElem?_eq_none (by omega)]
        · rfl
      rw [this]
    · rw [List.set_comm _ _ (by omega)]
      exact set_set_perm L j i b a hj hi h
  · exact List.Perm.refl _

theorem swL_get {L : List α} {i j : Nat} {a b : α} (hi : L[i]? = some a) (hj : L[j]? = some b) (hne : i ≠ j) (k : Nat) : (swL L i j)[k]? = if k = i then some b else if k = j then some a else L[k]? := by
  have hil := (List.getElem?_eq_some_iff.1 hi).1
  have hjl := (List.getElem?_eq_some_iff.1 hj).1
  rw [swL_eq hi hj, List.getElem?_set, List.getElem?_set]
  simp only [List.length_set]
  by_cases h1 : j = k
  · subst h1
    rw [if_pos rfl, if_pos hjl, if_neg (Ne.symm hne), if_pos rfl]
  · rw [if_neg h1]
    by_cases h2 : i = k
    · subst h2
      rw [if_pos rfl, if_pos hil, if_pos rfl]
    · rw [if_neg h2, if_neg (fun e => h2 e.symm), if_neg (fun e => h1 e.symm)]
end

/-! ### up and down -/
section
variable {X : Type} (key : X → Int)

def ahL (L : List (Int × X)) (i j : Nat) : Bool := match L[i]?, L[j]? with
  | some a, some b => aheadB (bk key) a b
  | _, _ => false

def upL (L : List (Int × X)) (i : Nat) : List (Int × X) :=
  if 0 < i ∧ ahL key L i ((i - 1) / 2) = true then upL (swL L i ((i - 1) / 2)) ((i - 1) / 2) else L
termination_by i
decreasing_by omega

def childL (L : List (Int × X)) (i : Nat) : Nat := if 2 * i + 2 < L.length ∧ ahL key L (2 * i + 2) (2 * i + 1) = true then 2 * i + 2 else 2 * i + 1

theorem childL_gt (L : List (Int × X)) (i : Nat) : i < childL key L i := by
  unfold childL
  split <;> omega

def downL (L : List (Int × X)) (i : Nat) : List (Int × X) × Nat :=
  if 2 * i + 1 < L.length ∧ ahL key L (childL key L i) i = true then downL (swL L i (childL key L i)) (childL key L i) else (L, i)
termination_by L.length - i
decreasing_by
  have := childL_gt key L i
  simp only [swL_length]
  omega

def settleL (L : List (Int × X)) (i : Nat) : List (Int × X) := if i < (downL key L i).2 then (downL key L i).1 else upL key (downL key L i).1 i

def pushL (L : List (Int × X)) (e : Int × X) : List (Int × X) := upL key (L ++ [e]) L.length

/-- the last one into the place of one that goes -/
def cutL (L : List (Int × X)) (i : Nat) : List (Int × X) := match L.getLast? with
  | some z => (L.set i z).take (L.length - 1)
  | none => L

def takeL (L : List (Int × X)) (i : Nat) : List (Int × X) := if i + 1 < L.length then settleL key (cutL L i) i else L.take (L.length - 1)

variable {key}

theorem ahL_eq {L : List (Int × X)} {i j : Nat} {a b : Int × X} (hi : L[i]? = some a) (hj : L[j]? = some b) : ahL key L i j = aheadB (bk key) a b := by
  unfold ahL
  rw [hi, hj]

theorem upL_yes {L : List (Int × X)} {i : Nat} (h : 0 < i) (h2 : ahL key L i ((i - 1) / 2) = true) : upL key L i = upL key (swL L i ((i - 1) / 2)) ((i - 1) / 2) := by
  rw [upL, if_pos ⟨h, h2⟩]
theorem upL_no {L : List (Int × X)} {i : Nat} (h : ¬ (0 < i ∧ ahL key L i ((i - 1) / 2) = true)) : upL key L i = L := by
  rw [upL, if_neg h]
theorem downL_yes {L : List (Int × X)} {i : Nat} (h : 2 * i + 1 < L.length) (h2 : ahL key L (childL key L i) i = true) : downL key L i = downL key (swL L i (childL key L i)) (childL key L i) := by
  rw [downL, if_pos ⟨h, h2⟩]
theorem downL_no {L : List (Int × X)} {i : Nat} (h : ¬ (2 * i + 1 < L.length ∧ ahL key L (childL key L i) i = true)) : downL key L i = (L, i) := by
  rw [downL, if_neg h]

theorem upL_perm (L : List (Int × X)) (i : Nat) : (upL key L i).Perm L := by
  induction i using Nat.strongRecOn generalizing L with
  | ind i ih =>
    by_cases h : 0 < i ∧ ahL key L i ((i - 1) / 2) = true
    · rw [upL_yes h.1 h.2]
      exact (ih _ (by omega) _).trans (swL_perm _ _ _)
    · rw [upL_no h]

theorem downL_perm (L : List (Int × X)) (i : Nat) : (downL key L i).1.Perm L := by
  generalize hn : L.length - i = n
  induction n using Nat.strongRecOn generalizing L i with
  | ind n ih =>
    by_cases h : 2 * i + 1 < L.length ∧ ahL key L (childL key L i) i = true
    · rw [downL_yes h.1 h.2]
      have := childL_gt key L i
      exact (ih _ (by simp only [swL_length]; omega) _ _ rfl).trans (swL_perm _ _ _)
    · rw [downL_no h]

theorem downL_ge (L : List (Int × X)) (i : Nat) : i ≤ (downL key L i).2 := by
  generalize hn : L.length - i = n
  induction n using Nat.strongRecOn generalizing L i with
  | ind n ih =>
    by_cases h : 2 * i + 1 < L.length ∧ ahL key L (childL key L i) i = true
    · rw [downL_yes h.1 h.2]
      have := childL_gt key L i
      have := ih _ (by simp only [swL_length]; omega) (swL L i (childL key L i)) (childL key L i) rfl
      omega
    · rw [downL_no h]
      exact Nat.le_refl _

theorem settleL_perm (L : List (Int × X)) (i : Nat) : (settleL key L i).Perm L := by
  unfold settleL
  split
  · exact downL_perm _ _
  · exact (upL_perm _ _).trans (downL_perm _ _)

theorem pushL_perm (L : List (Int × X)) (e : Int × X) : (pushL key L e).Perm (L ++ [e]) := upL_perm _ _

theorem upL_length (L : List (Int × X)) (i : Nat) : (upL key L i).length = L.length := (upL_perm L i).length_eq
theorem downL_length (L : List (Int × X)) (i : Nat) : (downL key L i).1.length = L.length := (downL_perm L i).length_eq
theorem settleL_length (L : List (Int × X)) (i : Nat) : (settleL key L i).length = L.length := (settleL_perm L i).length_eq

theorem cutL_perm {L : List (Int × X)} {i : Nat} {e : Int × X} (h : L[i]? = some e) (hi : i + 1 < L.length) : (e :: cutL L i).Perm L := by
  have hne : L ≠ [] := by
    rintro rfl
    simp at hi
  obtain ⟨z, M, rfl⟩ : ∃ z M, L = M ++ [z] := ⟨L.getLast hne, L.dropLast, (List.dropLast_concat_getLast hne).symm⟩
  simp only [List.length_append, List.length_singleton] at hi
  have hl : cutL (M ++ [z]) i = M.set i z := by
    unfold cutL
    rw [List.getLast?_append]
    simp only [List.getLast?_singleton, Option.some_or, List.length_append, List.length_singleton, Nat.add_sub_cancel]
    rw [List.set_append_left _ _ (by omega), List.take_left' (by simp)]
  rw [hl]
  rw [List.getElem?_append_left (by omega)] at h
  exact (set_perm M i z e h).trans (List.perm_append_singleton z M).symm

theorem takeL_perm {L : List (Int × X)} {i : Nat} {e : Int × X} (h : L[i]? = some e) : (e :: takeL key L i).Perm L := by
  unfold takeL
  split
  · rename_i hi
    exact ((settleL_perm _ _).cons e).trans (cutL_perm h hi)
  · have hil := (List.getElem?_eq_some_iff.1 h).1
    have hi : i = L.length - 1 := by omega
    have hne : L ≠ [] := by
      rintro rfl
      simp at hil
    obtain ⟨z, M, rfl⟩ : ∃ z M, L = M ++ [z] := ⟨L.getLast hne, L.dropLast, (List.dropLast_concat_getLast hne).symm⟩
    simp only [List.length_append, List.length_singleton, Nat.add_sub_cancel] at hi ⊢
    subst hi
    rw [List.getElem?_append_right (Nat.le_refl _)] at h
    simp only [Nat.sub_self, List.getElem?_cons_zero, Option.some.injEq] at h
    subst h
    rw [List.take_left' rfl]
    exact (List.perm_append_singleton z M).symm

theorem cutL_length {L : List (Int × X)} {i : Nat} (h : 0 < L.length) : (cutL L i).length = L.length - 1 := by
  unfold cutL
  split
  · simp
  · rename_i hn
    rw [List.getLast?_eq_none_iff] at hn
    subst hn
    simp at h

theorem takeL_length {L : List (Int × X)} {i : Nat} (h : 0 < L.length) : (takeL key L i).length = L.length - 1 := by
  unfold takeL
  split
  · rw [settleL_length, cutL_length h]
  · simp

/-! ### the heap's order -/

/-- Nobody ranks ahead of his parent. -/
def HOK (key : X → Int) (L : List (Int × X)) : Prop := ∀ j a b, 0 < j → L[j]? = some a → L[(j - 1) / 2]? = some b → hle key b a

/-- All but i are behind their parents; i's children behind i's parent. -/
def UOK (key : X → Int) (L : List (Int × X)) (i : Nat) : Prop := (∀ j a b, 0 < j → j ≠ i → L[j]? = some a → L[(j - 1) / 2]? = some b → hle key b a) ∧
  (∀ c a b, 0 < i → 0 < c → (c - 1) / 2 = i → L[c]? = some a → L[(i - 1) / 2]? = some b → hle key b a)

/-- All but i's children are behind their parents; i's children behind i's parent. -/
def DOK (key : X → Int) (L : List (Int × X)) (i : Nat) : Prop := (∀ j a b, 0 < j → (j - 1) / 2 ≠ i → L[j]? = some a → L[(j - 1) / 2]? = some b → hle key b a) ∧
  (∀ c a b, 0 < i → 0 < c → (c - 1) / 2 = i → L[c]? = some a → L[(i - 1) / 2]? = some b → hle key b a)

/-- All but i and i's children are behind their parents; i's children behind i's parent. -/
def SOK (key : X → Int) (L : List (Int × X)) (i : Nat) : Prop := (∀ j a b, 0 < j → j ≠ i → (j - 1) / 2 ≠ i → L[j]? = some a → L[(j - 1) / 2]? = some b → hle key b a) ∧
  (∀ c a b, 0 < i → 0 < c → (c - 1) / 2 = i → L[c]? = some a → L[(i - 1) / 2]? = some b → hle key b a)

theorem DOK.sok {L : List (Int × X)} {i : Nat} (h : DOK key L i) : SOK key L i := ⟨fun j a b h1 _ h3 => h.1 j a b h1 h3, h.2⟩

theorem get_some {L : List (Int × X)} {i : Nat} (h : i < L.length) : ∃ a, L[i]? = some a := ⟨_, List.getElem?_eq_getElem h⟩

theorem upL_ok (L : List (Int × X)) (i : Nat) (hi : i < L.length) (h : UOK key L i) : HOK key (upL key L i) := by
  induction i using Nat.strongRecOn generalizing L with
  | ind i ih =>
    by_cases hc : 0 < i ∧ ahL key L i ((i - 1) / 2) = true
    · obtain ⟨h0, h1⟩ := hc
      rw [upL_yes h0 h1]
      generalize hp : (i - 1) / 2 = p at *
      obtain ⟨a, ha⟩ := get_some hi
      obtain ⟨b, hb⟩ := get_some (show p < L.length by omega)
      rw [ahL_eq ha hb] at h1
      have hab := hle_of_ahead h1
      have hg := swL_get ha hb (by omega)
      refine ih p (by omega) _ (by simp; omega) ⟨fun j x y hj hne hx hy => ?_, fun c x y hp0 hc0 hcp hx hy => ?_⟩
      · rw [hg] at hx hy
        by_cases hji : j = i
        · subst hji
          rw [if_pos rfl] at hx
          rw [hp, if_neg (by omega), if_pos rfl] at hy
          cases hx
          cases hy
          exact hab
        · rw [if_neg hji, if_neg hne] at hx
          by_cases hq : (j - 1) / 2 = i
          · rw [if_pos hq] at hy
            cases hy
            exact h.2 j x _ h0 hj hq hx (by rw [hp]; exact hb)
          · rw [if_neg hq] at hy
            by_cases hq2 : (j - 1) / 2 = p
            · rw [if_pos hq2] at hy
              cases hy
              exact hab.trans (h.1 j x _ hj hji hx (by rw [hq2]; exact hb))
            · rw [if_neg hq2] at hy
              exact h.1 j x y hj hji hx hy
      · rw [hg] at hx hy
        rw [if_neg (by omega), if_neg (by omega)] at hy
        have hpp : hle key y b := h.1 p b y hp0 (by omega) hb hy
        by_cases hci : c = i
        · subst hci
          rw [if_pos rfl] at hx
          cases hx
          exact hpp
        · rw [if_neg hci, if_neg (by omega)] at hx
          exact hpp.trans (h.1 c x b hc0 hci hx (by rw [hcp]; exact hb))
    · rw [upL_no hc]
      intro j a b hj ha hb
      by_cases hji : j = i
      · subst hji
        have hf : ahL key L j ((j - 1) / 2) = false := by
          cases hq : ahL key L j ((j - 1) / 2)
          · rfl
          · exact absurd ⟨hj, hq⟩ hc
        rw [ahL_eq ha hb] at hf
        exact hle_of_not hf
      · exact h.1 j a b hj hji ha hb

/-- The child that ranks first. -/
theorem childL_le {L : List (Int × X)} {i : Nat} (h : 2 * i + 1 < L.length) : childL key L i < L.length ∧ (childL key L i = 2 * i + 1 ∨ childL key L i = 2 * i + 2) ∧
    ∀ j a b, 0 < j → (j - 1) / 2 = i → L[j]? = some a → L[childL key L i]? = some b → hle key b a := by
  have key2 : ∀ j, 0 < j → (j - 1) / 2 = i → j = 2 * i + 1 ∨ j = 2 * i + 2 := fun j h1 h2 => by omega
  unfold childL
  by_cases hc : 2 * i + 2 < L.length ∧ ahL key L (2 * i + 2) (2 * i + 1) = true
  · rw [if_pos hc]
    refine ⟨hc.1, .inr rfl, fun j a b h1 h2 ha hb => ?_⟩
    rcases key2 j h1 h2 with rfl | rfl
    · have := hc.2
      rw [ahL_eq hb ha] at this
      exact hle_of_ahead this
    · rw [ha] at hb
      cases hb
      exact hle.refl _
  · rw [if_neg hc]
    refine ⟨h, .inl rfl, fun j a b h1 h2 ha hb => ?_⟩
    rcases key2 j h1 h2 with rfl | rfl
    · rw [ha] at hb
      cases hb
      exact hle.refl _
    · have hl := (List.getElem?_eq_some_iff.1 ha).1
      have hf : ahL key L (2 * i + 2) (2 * i + 1) = false := by
        cases hq : ahL key L (2 * i + 2) (2 * i + 1)
        · rfl
        · exact absurd ⟨hl, hq⟩ hc
      rw [ahL_eq ha hb] at hf
      exact hle_of_not hf

/-- One step down. -/
theorem down_step {L : List (Int × X)} {i : Nat} (h : SOK key L i) (h1 : 2 * i + 1 < L.length) (h2 : ahL key L (childL key L i) i = true) : DOK key (swL L i (childL key L i)) (childL key L i) := by
  obtain ⟨hcl, hcc, hmin⟩ := childL_le (key := key) h1
  generalize childL key L i = c at *
  obtain ⟨a, ha⟩ := get_some (show i < L.length by omega)
  obtain ⟨b, hb⟩ := get_some hcl
  rw [ahL_eq hb ha] at h2
  have hba := hle_of_ahead h2
  have hg := swL_get ha hb (by omega)
  refine ⟨fun j x y hj hne hx hy => ?_, fun d x y _ hd0 hdc hx hy => ?_⟩
  · rw [hg] at hx hy
    by_cases hq : (j - 1) / 2 = i
    · rw [if_pos hq] at hy
      cases hy
      rw [if_neg (by omega)] at hx
      by_cases hjc : j = c
      · rw [if_pos hjc] at hx
        cases hx
        exact hba
      · rw [if_neg hjc] at hx
        exact hmin j x _ hj hq hx hb
    · rw [if_neg hq, if_neg hne] at hy
      by_cases hji : j = i
      · subst hji
        rw [if_pos rfl] at hx
        cases hx
        exact h.2 c _ y hj (by omega) (by omega) hb hy
      · rw [if_neg hji, if_neg (by omega)] at hx
        exact h.1 j x y hj hji hq hx hy
  · rw [hg] at hx hy
    rw [if_neg (by omega), if_neg (by omega)] at hx
    have hci : (c - 1) / 2 = i := by omega
    rw [hci, if_pos rfl] at hy
    cases hy
    exact h.1 d x _ hd0 (by omega) (by omega) hx (by rw [hdc]; exact hb)

theorem down_end {L : List (Int × X)} {i : Nat} (hc : ¬ (2 * i + 1 < L.length ∧ ahL key L (childL key L i) i = true)) : ∀ j a b, 0 < j → (j - 1) / 2 = i → L[j]? = some a → L[i]? = some b → hle key b a := by
  intro j a b hj hji ha hb
  have hl := (List.getElem?_eq_some_iff.1 ha).1
  have h1 : 2 * i + 1 < L.length := by omega
  obtain ⟨hcl, hcc, hmin⟩ := childL_le (key := key) h1
  have hf : ahL key L (childL key L i) i = false := by
    cases hq : ahL key L (childL key L i) i
    · rfl
    · exact absurd ⟨h1, hq⟩ hc
  obtain ⟨z, hz⟩ := get_some hcl
  rw [ahL_eq hz hb] at hf
  exact (hle_of_not hf).trans (hmin j a z hj hji ha hz)

theorem downL_ok (L : List (Int × X)) (i : Nat) (h : DOK key L i) : HOK key (downL key L i).1 := by
  generalize hn : L.length - i = n
  induction n using Nat.strongRecOn generalizing L i with
  | ind n ih =>
    by_cases hc : 2 * i + 1 < L.length ∧ ahL key L (childL key L i) i = true
    · rw [downL_yes hc.1 hc.2]
      have := childL_gt key L i
      exact ih _ (by simp only [swL_length]; omega) _ _ (down_step h.sok hc.1 hc.2) rfl
    · rw [downL_no hc]
      intro j a b hj ha hb
      by_cases hji : (j - 1) / 2 = i
      · rw [hji] at hb
        exact down_end hc j a b hj hji ha hb
      · exact h.1 j a b hj hji ha hb

theorem settleL_ok (L : List (Int × X)) (i : Nat) (hi : i < L.length) (h : SOK key L i) : HOK key (settleL key L i) := by
  unfold settleL
  by_cases hc : 2 * i + 1 < L.length ∧ ahL key L (childL key L i) i = true
  · have hg : i < (downL key L i).2 := by
      rw [downL_yes hc.1 hc.2]
      exact Nat.lt_of_lt_of_le (childL_gt key L i) (downL_ge _ _)
    rw [if_pos hg, downL_yes hc.1 hc.2]
    exact downL_ok _ _ (down_step h hc.1 hc.2)
  · rw [downL_no hc, if_neg (Nat.lt_irrefl _)]
    refine upL_ok L i hi ⟨fun j a b hj hne ha hb => ?_, h.2⟩
    by_cases hji : (j - 1) / 2 = i
    · rw [hji] at hb
      exact down_end hc j a b hj hji ha hb
    · exact h.1 j a b hj hne hji ha hb

theorem pushL_ok {L : List (Int × X)} (e : Int × X) (h : HOK key L) : HOK key (pushL key L e) := by
  refine upL_ok _ _ (by simp) ⟨fun j a b hj hne ha hb => ?_, fun c a b _ hc hcl ha hb => ?_⟩
  · have hl := (List.getElem?_eq_some_iff.1 ha).1
    simp only [List.length_append, List.length_singleton] at hl
    rw [List.getElem?_append_left (by omega)] at ha
    rw [List.getElem?_append_left (by omega)] at hb
    exact h j a b hj ha hb
  · have hl := (List.getElem?_eq_some_iff.1 ha).1
    simp only [List.length_append, List.length_singleton] at hl
    omega

theorem HOK.parent {L : List (Int × X)} (h : HOK key L) {j : Nat} {a : Int × X} (hj : 0 < j) (ha : L[j]? = some a) : ∃ b, L[(j - 1) / 2]? = some b ∧ hle key b a := by
  have hl := (List.getElem?_eq_some_iff.1 ha).1
  obtain ⟨b, hb⟩ := get_some (show (j - 1) / 2 < L.length by omega)
  exact ⟨b, hb, h j a b hj ha hb⟩

/-- Another one in one's place. -/
theorem set_sok {L : List (Int × X)} (h : HOK key L) (i : Nat) (e : Int × X) : SOK key (L.set i e) i := by
  refine ⟨fun j a b hj hne hq ha hb => ?_, fun c a b hi hc hcl ha hb => ?_⟩
  · rw [List.getElem?_set_ne (Ne.symm hne)] at ha
    rw [List.getElem?_set_ne (Ne.symm hq)] at hb
    exact h j a b hj ha hb
  · rw [List.getElem?_set_ne (by omega)] at ha hb
    obtain ⟨z, hz, h1⟩ := h.parent hc ha
    rw [hcl] at hz
    exact (h i z b hi hz hb).trans h1

theorem HOK.take {L : List (Int × X)} (h : HOK key L) (n : Nat) : HOK key (L.take n) := by
  intro j a b hj ha hb
  rw [List.getElem?_take] at ha hb
  split at ha
  · split at hb
    · exact h j a b hj ha hb
    · cases hb
  · cases ha

theorem SOK.take {L : List (Int × X)} {i : Nat} (h : SOK key L i) (n : Nat) : SOK key (L.take n) i := by
  refine ⟨fun j a b hj hne hq ha hb => ?_, fun c a b hi hc hcl ha hb => ?_⟩
  · rw [List.getElem?_take] at ha hb
    split at ha
    · split at hb
      · exact h.1 j a b hj hne hq ha hb
      · cases hb
    · cases ha
  · rw [List.getElem?_take] at ha hb
    split at ha
    · split at hb
      · exact h.2 c a b hi hc hcl ha hb
      · cases hb
    · cases ha

theorem takeL_ok {L : List (Int × X)} (i : Nat) (h : HOK key L) : HOK key (takeL key L i) := by
  unfold takeL
  split
  · rename_i hi
    have hl : (cutL L i).length = L.length - 1 := cutL_length (by omega)
    refine settleL_ok _ _ (by omega) ?_
    unfold cutL
    split
    · exact (set_sok h i _).take _
    · rename_i hn
      rw [List.getLast?_eq_none_iff] at hn
      subst hn
      simp at hi
  · exact h.take _

theorem changeL_ok {L : List (Int × X)} (i : Nat) (hi : i < L.length) (e : Int × X) (h : HOK key L) : HOK key (settleL key (L.set i e) i) := settleL_ok _ _ (by simpa using hi) (set_sok h i e)

/-- The first one ranks ahead of all. -/
theorem HOK.first {L : List (Int × X)} (h : HOK key L) {z : Int × X} (hz : L[0]? = some z) : ∀ a ∈ L, hle key z a := by
  have key2 : ∀ (j : Nat) (a : Int × X), L[j]? = some a → hle key z a := by
    intro j
    induction j using Nat.strongRecOn with
    | ind j ih =>
      intro a ha
      by_cases hj : j = 0
      · subst hj
        rw [hz] at ha
        cases ha
        exact hle.refl _
      · obtain ⟨b, hb, h1⟩ := h.parent (by omega) ha
        exact (ih _ (by omega) b hb).trans h1
  intro a ha
  obtain ⟨j, hj⟩ := List.getElem?_of_mem ha
  exact key2 j a hj

theorem HOK.nil : HOK key ([] : List (Int × X)) := fun j a b _ ha => by simp at ha

end

/-! ### how often is asked -/

theorem log_half {n : Nat} (h : 2 ≤ n) : Nat.log2 n = Nat.log2 (n / 2) + 1 := by
  rw [Nat.log2_def, if_pos h]

theorem log_up {i : Nat} (h : 0 < i) : Nat.log2 (i + 1) = Nat.log2 ((i - 1) / 2 + 1) + 1 := by
  rw [log_half (by omega)]
  congr 2
  omega

theorem log_mono {a b : Nat} (h : a ≤ b) : Nat.log2 a ≤ Nat.log2 b := by
  induction b using Nat.strongRecOn generalizing a with
  | ind b ih =>
    by_cases ha : 2 ≤ a
    · rw [log_half ha, log_half (show 2 ≤ b by omega)]
      have := ih (b / 2) (by omega) (show a / 2 ≤ b / 2 by omega)
      omega
    · rw [Nat.log2_def, if_neg ha]
      omega

theorem log_down {n i c : Nat} (h : 2 * i + 1 < n) (hc : 2 * i + 1 ≤ c) : Nat.log2 (n / (c + 1)) + 1 ≤ Nat.log2 (n / (i + 1)) := by
  have h2 : 2 ≤ n / (i + 1) := by
    rw [Nat.le_div_iff_mul_le (by omega)]
    omega
  rw [log_half h2]
  have : n / (c + 1) ≤ n / (i + 1) / 2 := by
    rw [Nat.div_div_eq_div_mul]
    exact Nat.div_le_div_left (by omega) (by omega)
  have := log_mono this
  omega

theorem log_succ (n : Nat) : Nat.log2 (n + 1) ≤ Nat.log2 n + 1 := by
  by_cases h : n = 0
  · subst h
    decide
  · rw [log_half (show 2 ≤ n + 1 by omega)]
    have := log_mono (show (n + 1) / 2 ≤ n by omega)
    omega

end Go.Sb
