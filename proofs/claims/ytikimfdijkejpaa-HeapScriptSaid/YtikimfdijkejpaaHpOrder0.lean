/- The order of a heap: plain mathematics. -/
import Derived.Test.YtikimfdijkejpaaHpPlain
namespace Go.Sb

section
variable {X : Type} (key : X → Int)

/-- The first one out, again and again. -/
def orderF : Nat → List (Int × X) → List (Int × X)
  | 0, _ => []
  | _ + 1, [] => []
  | k + 1, a :: L => a :: orderF k (takeL key (a :: L) 0)

def orderL (L : List (Int × X)) : List (Int × X) := orderF key L.length L

variable {key}

theorem takeL_len {a : Int × X} {L : List (Int × X)} : (takeL key (a :: L) 0).length = L.length := by
  rw [takeL_length (by simp)]
  rfl

theorem orderL_nil : orderL key ([] : List (Int × X)) = [] := rfl
theorem orderL_cons (a : Int × X) (L : List (Int × X)) : orderL key (a :: L) = a :: orderL key (takeL key (a :: L) 0) := by
  unfold orderL
  rw [takeL_len]
  rfl

theorem orderF_perm : ∀ (k : Nat) (L : List (Int × X)), L.length ≤ k → (orderF key k L).Perm L
  | 0, L, h => by
    have : L = [] := List.eq_nil_of_length_eq_zero (by omega)
    subst this
    exact List.Perm.refl _
  | k + 1, [], _ => List.Perm.refl _
  | k + 1, a :: L, h => by
    have ih := orderF_perm k (takeL key (a :: L) 0) (by rw [takeL_len]; simpa using h)
    exact (ih.cons a).trans (takeL_perm rfl)

theorem orderL_perm (L : List (Int × X)) : (orderL key L).Perm L := orderF_perm _ L (Nat.le_refl _)

theorem orderF_sorted : ∀ (k : Nat) (L : List (Int × X)), L.length ≤ k → HOK key L → (orderF key k L).Pairwise (hle key)
  | 0, _, _, _ => List.Pairwise.nil
  | k + 1, [], _, _ => List.Pairwise.nil
  | k + 1, a :: L, h, hok => by
    have hl : (takeL key (a :: L) 0).length ≤ k := by rw [takeL_len]; simpa using h
    refine List.Pairwise.cons (fun b hb => ?_) (orderF_sorted k _ hl (takeL_ok 0 hok))
    have h1 := (orderF_perm k _ hl).mem_iff.1 hb
    exact hok.first (z := a) rfl b ((takeL_perm (key := key) (L := a :: L) (i := 0) rfl).mem_iff.1 (List.mem_cons_of_mem _ h1))

theorem orderL_sorted {L : List (Int × X)} (h : HOK key L) : (orderL key L).Pairwise (hle key) := orderF_sorted _ L (Nat.le_refl _) h

/-- One order alone. -/
theorem sorted_eq : ∀ {A B : List (Int × X)}, A.Perm B → A.Pairwise (hle key) → B.Pairwise (hle key) → (A.map Prod.fst).Nodup → A = B
  | [], B, hp, _, _, _ => (List.nil_perm.1 hp).symm
  | a :: A, [], hp, _, _, _ => absurd hp.length_eq (by simp)
  | a :: A, b :: B, hp, ha, hb, hn => by
    have hab : a = b := by
      have h1 : a ∈ b :: B := hp.mem_iff.1 (List.mem_cons_self)
      have h2 : b ∈ a :: A := hp.mem_iff.2 (List.mem_cons_self)
      rcases List.mem_cons.1 h1 with h1 | h1
      · exact h1
      · rcases List.mem_cons.1 h2 with h2 | h2
        · exact h2.symm
        · have e1 := (List.pairwise_cons.1 ha).1 b h2
          have e2 := (List.pairwise_cons.1 hb).1 a h1
          have ht : b.1 = a.1 := by
            unfold hle at e1 e2
            omega
          rw [List.map_cons, List.nodup_cons] at hn
          exact absurd (List.mem_map.2 ⟨b, h2, ht⟩) hn.1
    subst hab
    rw [List.map_cons, List.nodup_cons] at hn
    rw [sorted_eq (List.Perm.cons_inv hp) (List.pairwise_cons.1 ha).2 (List.pairwise_cons.1 hb).2 hn.2]

/-- The order of all others is what it was. -/
theorem order_others {L M : List (Int × X)} (hL : HOK key L) (hM : HOK key M) (hn : (L.map Prod.fst).Nodup) (t : Int) (hp : (L.filter (fun p => p.1 != t)).Perm (M.filter (fun p => p.1 != t))) :
    ((orderL key L).map Prod.fst).filter (fun x => x != t) = ((orderL key M).map Prod.fst).filter (fun x => x != t) := by
  have h1 : ((orderL key L).filter (fun p => p.1 != t)) = ((orderL key M).filter (fun p => p.1 != t)) := by
    refine sorted_eq (((orderL_perm L).filter _).trans (hp.trans ((orderL_perm M).filter _).symm)) ((orderL_sorted hL).filter _) ((orderL_sorted hM).filter _) ?_
    have h2 : ((orderL key L).map Prod.fst).Nodup := ((orderL_perm L).map Prod.fst).nodup_iff.2 hn
    exact h2.sublist ((List.filter_sublist).map _)
  rw [List.filter_map, List.filter_map]
  exact congrArg (List.map Prod.fst) h1
end

end Go.Sb
