/- The register of 32 bits: half a byte, a byte, some bytes. No Go in sight. -/
import Derived.Test.YtgobbgklmjnnlaaBytes
namespace Go.Sb
open Go.RowKit

def tabL : List Nat := [0x00000000, 0x1db71064, 0x3b6e20c8, 0x26d930ac, 0x76dc4190, 0x6b6b51f4, 0x4db26158, 0x5005713c,
  0xedb88320, 0xf00f9344, 0xd6d6a3e8, 0xcb61b38c, 0x9b64c2b0, 0x86d3d2d4, 0xa00ae278, 0xbdbdf21c]
def tabA : Array Value := (tabL.map fun (n : Nat) => Value.int .u32 (n : Int)).toArray
def tabB (i : Nat) : BitVec 32 := BitVec.ofNat 32 (tabL.getD i 0)
def nib (r : BitVec 32) : BitVec 32 := (r >>> 4) ^^^ tabB (r &&& 15#32).toNat
def inB (r : BitVec 32) (c : UInt8) : BitVec 32 := r ^^^ BitVec.ofNat 32 c.toNat
def stepB (r : BitVec 32) (c : UInt8) : BitVec 32 := nib (nib (inB r c))
def overB (r : BitVec 32) (xs : List UInt8) : BitVec 32 := xs.foldl stepB r

def crcB (xs : List UInt8) : BitVec 32 := ~~~ overB (BitVec.allOnes 32) xs

theorem overB_snoc (r : BitVec 32) (xs : List UInt8) (c : UInt8) : overB r (xs ++ [c]) = stepB (overB r xs) c := by
  simp [overB, List.foldl_append]

theorem bits_of (op : BitVec 32 → BitVec 32 → BitVec 32) (bop : BinOp) (hop : ∀ x y : Int, bits bop .u32 x y = IntKind.u32.wrap ((op (BitVec.ofInt 32 x) (BitVec.ofInt 32 y)).toNat : Int)) (a b : BitVec 32) :
    bits bop .u32 (a.toNat : Int) (b.toNat : Int) = ((op a b).toNat : Int) := by
  rw [hop, IntKind.wrap_u32]
  have e1 : BitVec.ofInt 32 (a.toNat : Int) = a := by
    apply BitVec.eq_of_toNat_eq
    simp
  have e2 : BitVec.ofInt 32 (b.toNat : Int) = b := by
    apply BitVec.eq_of_toNat_eq
    simp
  rw [e1, e2]
  have := (op a b).isLt
  omega

theorem bits_xor32 (a b : BitVec 32) : bits .xor .u32 (a.toNat : Int) (b.toNat : Int) = ((a ^^^ b).toNat : Int) := bits_of (· ^^^ ·) .xor (fun _ _ => rfl) a b
theorem bits_and32 (a b : BitVec 32) : bits .and .u32 (a.toNat : Int) (b.toNat : Int) = ((a &&& b).toNat : Int) := bits_of (· &&& ·) .and (fun _ _ => rfl) a b
theorem bits_xor32_byte (a : BitVec 32) (c : UInt8) : bits .xor .u32 (a.toNat : Int) (c.toNat : Int) = ((inB a c).toNat : Int) := by
  have h := bits_xor32 a (BitVec.ofNat 32 c.toNat)
  have e : (BitVec.ofNat 32 c.toNat).toNat = c.toNat := by
    have := c.toNat_lt
    simp
  rw [e] at h
  exact h
theorem bits_not32 (a : BitVec 32) : bits .xor .u32 IntKind.u32.max (a.toNat : Int) = ((~~~ a).toNat : Int) := by
  have h := bits_xor32 (BitVec.allOnes 32) a
  have e : ((BitVec.allOnes 32).toNat : Int) = IntKind.u32.max := by decide
  rw [e] at h
  rw [h, BitVec.allOnes_xor]
theorem bits_and15 (a : BitVec 32) : bits .and .u32 (a.toNat : Int) 15 = ((a &&& 15#32).toNat : Int) := bits_and32 a 15#32
theorem and15_le (a : BitVec 32) : (a &&& 15#32).toNat ≤ 15 := by
  rw [BitVec.toNat_and]
  exact Nat.and_le_right
theorem shr4_32 (a : BitVec 32) : (a.toNat : Int) / 16 = ((a >>> 4).toNat : Int) := by
  rw [BitVec.toNat_ushiftRight, Nat.shiftRight_eq_div_pow]
  omega

theorem tab_cell {w : World} {bt T : Nat} (h : w.heap[bt]? = some (.cells tabA T (0, 0))) (a : BitVec 32) : w.cell? ⟨bt, (a &&& 15#32).toNat, none⟩ = some (.int .u32 ((tabB (a &&& 15#32).toNat).toNat : Int)) := by
  rw [cell_of h]
  have hle := and15_le a
  generalize (a &&& 15#32).toNat = i at *
  have h16 : ∀ i, i ≤ 15 → tabA[i]? = some (.int .u32 ((tabB i).toNat : Int)) := by
    intro i hi
    have hl : i < tabL.length := by simp [tabL]; omega
    have hb : tabL.getD i 0 < 4294967296 := by
      rw [List.getD_eq_getElem?_getD, List.getElem?_eq_getElem hl]
      have : ∀ x ∈ tabL, x < 4294967296 := by decide
      exact this _ (List.getElem_mem hl)
    have e : (tabB i).toNat = tabL[i] := by
      have h1 : tabL.getD i 0 = tabL[i] := by rw [List.getD_eq_getElem?_getD, List.getElem?_eq_getElem hl]; rfl
      rw [h1] at hb
      unfold tabB
      rw [h1, BitVec.toNat_ofNat, Nat.mod_eq_of_lt hb]
    rw [e]
    unfold tabA
    simp [List.getElem?_eq_getElem hl]
  exact h16 i hle

/-- What half a byte's step reads and reckons. -/
theorem nib_facts {w : World} {bt T : Nat} (h : w.heap[bt]? = some (.cells tabA T (0, 0))) (a : BitVec 32) :
    ∃ i s t : Nat, i ≤ 15 ∧ bits .and .u32 (a.toNat : Int) 15 = (i : Int) ∧ (a.toNat : Int) / 16 = (s : Int) ∧ w.cell? ⟨bt, i, none⟩ = some (.int .u32 (t : Int)) ∧ bits .xor .u32 (s : Int) (t : Int) = ((nib a).toNat : Int) :=
  ⟨_, _, _, and15_le a, bits_and15 a, shr4_32 a, tab_cell h a, bits_xor32 _ _⟩

theorem tabA_one : ∀ v ∈ tabA.toList, v.oneCell' = true := by
  intro v hv
  simp only [tabA, List.mem_map] at hv
  obtain ⟨n, _, rfl⟩ := hv
  rfl

theorem ret_u32 {a b : BitVec 32} (h : a = b) : Ending.returned (.int .u32 (a.toNat : Int)) = .returned (.int .u32 (b.toNat : Int)) := by rw [h]

end Go.Sb
