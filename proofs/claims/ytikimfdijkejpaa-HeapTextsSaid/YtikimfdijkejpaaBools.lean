/- Slices of bools in memory, made by the call; small facts on lists. -/
import Derived.Test.YtikimfdijkejpaaBase
namespace Go.Sb
open Go.RowKit

def bools (bs : List Bool) : Array Value := (bs.map Value.bool).toArray

theorem bools_set (bs : List Bool) (t : Nat) (v : Bool) : (bools bs).setIfInBounds t (.bool v) = bools (bs.set t v) := by
  unfold bools
  simp [List.map_set]

theorem cell_bools {w : World} {bg T : Nat} {bs : List Bool} (h : w.heap[bg]? = some (.cells (bools bs) T (0, 0))) {t : Nat} (ht : t < bs.length) : w.cell? ⟨bg, t, none⟩ = some (.bool (bs.getD t false)) := by
  rw [cell_of h]
  simp [bools, List.getD, ht]

theorem run_make_bools {P : Program} {T E : TypeId} {i : TypeInfo} (h1 : P.underlying T = some (.slice E)) (h2 : P.info? E = some i) (h3 : i.zero = some (.bool false)) (h4 : i.size = 1) (h5 : i.bytes = 1)
    (N : Int) (n : Nat) (hN : N = n) (hn : n ≤ 281474976710656) (u : World) :
    (Instr.makeSlice T (.int .i64 N) (.int .i64 N)).run P u = .ok (.slice (some ⟨u.heap.size, 0, none⟩) n n) (u.alloc (.cells (bools (List.replicate n false)) E)) := by
  subst hN
  have h := run_make (P := P) u T E i (.bool false) h1 h2 h3 .i64 .i64 (n : Int) (n : Int) (by omega) (Int.le_refl _) (by rw [h5]; omega) (by omega)
  have e : ((n : Int)).toNat = n := by omega
  rw [e] at h
  rw [h]
  congr 3
  unfold bools madeCells
  simp [h4, Value.cells]
  apply Array.ext
  · simp
  · intro j hj1 hj2
    simp [Nat.mod_one]

/-- The numbers from a to n that are not gone. -/
def live (bs : List Bool) (a n : Nat) : List Nat := (List.range' a (n + 1 - a)).filter (fun t => !bs.getD t false)

theorem mem_live {bs : List Bool} {a n t : Nat} : t ∈ live bs a n ↔ (a ≤ t ∧ t ≤ n) ∧ bs.getD t false = false := by
  unfold live
  rw [List.mem_filter, List.mem_range'_1]
  simp only [Bool.not_eq_true']
  constructor
  · rintro ⟨⟨h1, h2⟩, h3⟩; exact ⟨⟨h1, by omega⟩, h3⟩
  · rintro ⟨⟨h1, h2⟩, h3⟩; exact ⟨⟨h1, by omega⟩, h3⟩

theorem nodup_live (bs : List Bool) (a n : Nat) : (live bs a n).Nodup := (List.nodup_range' (s := a) (n := n + 1 - a)).filter _

theorem live_set {bs : List Bool} {a n t : Nat} (ht : t < bs.length) : live (bs.set t true) a n = (live bs a n).filter (fun x => x != t) := by
  unfold live
  rw [List.filter_filter]
  congr 1
  funext x
  by_cases h : x = t
  · subst h; simp [List.getD, ht]
  · have : ¬ t = x := fun e => h e.symm
    simp [List.getD, this, h]

theorem live_next {bs : List Bool} {a n : Nat} (h : a ≤ n) : live bs a n = if bs.getD a false then live bs (a + 1) n else a :: live bs (a + 1) n := by
  unfold live
  have e : n + 1 - a = (n + 1 - (a + 1)) + 1 := by omega
  rw [e, List.range'_succ, List.filter_cons]
  cases bs.getD a false <;> simp

theorem live_length (bs : List Bool) (a n : Nat) : (live bs a n).length ≤ n + 1 := by
  unfold live
  have := List.length_filter_le (fun t => !bs.getD t false) (List.range' a (n + 1 - a))
  rw [List.length_range'] at this
  omega

theorem filter_all {L : List Nat} {t : Nat} (h : t ∉ L) : L.filter (fun x => x != t) = L := by
  rw [List.filter_eq_self]
  intro x hx
  simp only [bne_iff_ne, ne_eq]
  rintro rfl
  exact h hx

theorem live_none {bs : List Bool} {a n : Nat} (h : n < a) : live bs a n = [] := by
  unfold live
  have e : n + 1 - a = 0 := by omega
  rw [e]
  rfl

theorem live_fresh (m a n : Nat) : live (List.replicate m false) a n = List.range' a (n + 1 - a) := by
  unfold live
  rw [List.filter_eq_self]
  intro t _
  by_cases h : t < m <;> simp [List.getD, h]

theorem filter_ne {L us vs : List Nat} {t : Nat} (h : L = us ++ t :: vs) (hn : L.Nodup) : L.filter (fun x => x != t) = us ++ vs := by
  subst h
  rw [List.nodup_append] at hn
  rw [List.filter_append, List.filter_cons]
  have h1 : us.filter (fun x => x != t) = us := by
    rw [List.filter_eq_self]
    intro x hx
    have := hn.2.2 x hx t (by simp)
    simpa using this
  have h2 : vs.filter (fun x => x != t) = vs := by
    rw [List.filter_eq_self]
    intro x hx
    have := (List.nodup_cons.1 hn.2.1).1
    simp only [bne_iff_ne, ne_eq]
    rintro rfl
    exact this hx
  simp [h1, h2]

end Go.Sb
