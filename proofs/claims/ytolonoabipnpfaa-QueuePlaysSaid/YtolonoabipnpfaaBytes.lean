/- Bytes in memory: how a slice of bytes reads. -/
import Derived.Test.YtolonoabipnpfaaOwn
namespace Go.Sb
open Go.RowKit

def byte (c : UInt8) : Value := .int .u8 (c.toNat : Int)

/-- The slice value v reads as the bytes xs in the world w. -/
def RB (w : World) (v : Value) (xs : List UInt8) : Prop :=
  ∃ (a : Option Addr) (c : Nat), v = .slice a xs.length c ∧ xs.length ≤ c ∧ c ≤ maxLen ∧
    (a = none ∧ c = 0 ∨ ∃ b o s, a = some ⟨b, o, s⟩ ∧ (xs ≠ [] → s = none) ∧ ∀ i (h : i < xs.length), w.cell? ⟨b, o + i, none⟩ = some (byte xs[i]))

theorem RB.nil (w : World) : RB w (.slice none 0 0) [] := ⟨none, 0, rfl, by simp, by simp [maxLen], .inl ⟨rfl, rfl⟩⟩

theorem RB.len {w : World} {v : Value} {xs : List UInt8} (h : RB w v xs) : xs.length ≤ maxLen := by
  obtain ⟨a, c, rfl, h1, h2, _⟩ := h
  omega

/-- opened: nothing there, or a block and a place in it -/
theorem RB.open' {w : World} {v : Value} {xs : List UInt8} (h : RB w v xs) : (∃ a c, v = .slice a 0 c ∧ xs = []) ∨
    ∃ b o c, v = .slice (some ⟨b, o, none⟩) xs.length c ∧ xs.length ≤ c ∧ c ≤ maxLen ∧ 0 < xs.length ∧ ∀ i (h : i < xs.length), w.cell? ⟨b, o + i, none⟩ = some (byte xs[i]) := by
  obtain ⟨a, c, rfl, h1, h2, h3⟩ := h
  cases xs with
  | nil => exact .inl ⟨a, c, rfl, rfl⟩
  | cons x xs =>
    rcases h3 with ⟨rfl, rfl⟩ | ⟨b, o, s, rfl, hs, h4⟩
    · simp at h1
    · obtain rfl := hs (by simp)
      exact .inr ⟨b, o, c, rfl, h1, h2, by simp, h4⟩

/-- A slice of bytes that the call itself made. -/
def OB (E : TypeId) (F : Nat → Prop) (w : World) (v : Value) (xs : List UInt8) : Prop := Own E 1 F w v xs.length (xs.map byte)

theorem RB.of {w w' : World} {v : Value} {xs : List UInt8} (h : RB w v xs) (hk : ∀ k, k < w.heap.size → v.ownBlock = some k → w'.heap[k]? = w.heap[k]?) : RB w' v xs := by
  obtain ⟨a, c, rfl, h1, h2, h3⟩ := h
  refine ⟨a, c, rfl, h1, h2, h3.imp id ?_⟩
  rintro ⟨b, o, s, rfl, hs, h4⟩
  refine ⟨b, o, s, rfl, hs, fun i h => ?_⟩
  have h5 := h4 i h
  rw [World.cell?_of_block (w := w) (hk b (World.block_lt_of_cell? w _ h5) rfl)]
  exact h5

theorem RB.fr {w w' : World} {v : Value} {xs : List UInt8} (h : RB w v xs) (hf : Fr (fun _ => False) w w') : RB w' v xs := h.of (fun k hk _ => hf.block k hk (fun h => h))
theorem RB.drewN {w : World} {v : Value} {xs : List UInt8} (h : RB w v xs) (n : Nat) : RB (w.drewN n) v xs := h

theorem RB.src {w : World} {v : Value} {xs : List UInt8} (h : RB w v xs) : Src w v xs.length 1 (xs.map byte) := by
  obtain ⟨a, c, rfl, h1, h2, h3⟩ := h
  refine ⟨by simp, fun u hu => ?_, ?_⟩
  · obtain ⟨c, _, rfl⟩ := List.mem_map.1 hu
    rfl
  · rcases h3 with ⟨rfl, rfl⟩ | ⟨b, o, s, rfl, hs, h4⟩
    · exact .inl ⟨0, rfl, by omega⟩
    · refine .inr ⟨_, c, rfl, fun j u hu => ?_⟩
      rw [List.getElem?_map] at hu
      obtain ⟨x, hx, rfl⟩ := Option.map_eq_some_iff.1 hu
      obtain ⟨hj, rfl⟩ := List.getElem?_eq_some_iff.1 hx
      obtain rfl := hs (fun h => by subst h; simp at hj)
      rw [show ((⟨b, o, none⟩ : Addr).add j) = ⟨b, o + j, none⟩ from by unfold Addr.add; split <;> simp_all]
      exact h4 j hj

theorem OB.rb {E : TypeId} {F : Nat → Prop} {w : World} {v : Value} {xs : List UInt8} (h : OB E F w v xs) : RB w v xs := by
  rcases h.shape with ⟨rfl, h1, _⟩ | ⟨g, cap, rfl, h1, h2, hg⟩
  · have : xs = [] := List.eq_nil_of_length_eq_zero h1
    subst this
    exact RB.nil w
  · refine ⟨_, cap, rfl, h1, h2, .inr ⟨g, 0, none, rfl, fun _ => rfl, fun i hi => ?_⟩⟩
    rw [Nat.zero_add]
    exact Own.cell h hg (by simp [hi])

/-- what an append of bytes leaves, in OB's words -/
theorem OB.app {E : TypeId} {F G : Nat → Prop} {w w' : World} {v' : Value} {xs ys : List UInt8} (h : Own E 1 (ex F w) w' v' (xs.length + ys.length) (xs.map byte ++ ys.map byte)) (hF : ∀ k, F k → G k) (hn : ∀ k, w.heap.size ≤ k → G k) : OB E G w' v' (xs ++ ys) := by
  unfold OB
  rw [List.length_append, List.map_append]
  exact h.mono (fun k _ hk => hk.elim (hF k) (hn k))

theorem byte_oneCell (c : UInt8) : (byte c).oneCell' = true := rfl

end Go.Sb
