/- The cells of a slice of bytes that a law was handed inside a struct. -/
import Derived.Test.YtgobbgklmjnnlaaOpen
namespace Go.Sb
open Go.ChangeShapes Go.WideShapes Go.ChangeAt Go.RowKit

section
variable {H : Type} {enc : TypeId × Value → H} {P : Program}

theorem cells_bytes {t e : TypeId} (ht : P.underlying t = some (.slice e)) (he : P.underlying e = some (.int .u8)) (hc : P.cellsOf e = 1) {W : World} {fuel : Nat} {cs : List Value} {x : DataW H × List MemPlace}
    (hf : DataW.trod enc P W 0 (fun _ => true) true fuel t cs = some x) :
    ∃ (v : Value) (xs : List UInt8), cs = [v] ∧ RB W v xs ∧ (xs = [] ∨ ∃ elems spare, x.1 = .slice elems spare ∧ elems.length = xs.length) := by
  rcases open_ints ht he hc hf with ⟨hcs, hx⟩ | ⟨a, len, cap, zs, hcs, _, hl, hm, hz, hx, hcell, hwz⟩
  · exact ⟨_, [], hcs, RB.nil W, .inl rfl⟩
  · simp only [if_true] at hz
    subst hx
    obtain ⟨b, o, s⟩ := a
    have hs : 0 < len → s = none := fun h0 => by simpa [Addr.add] using World.cell?_spot (hcell 0 (by omega))
    have hlen : ((zs.take len).map fun n => UInt8.ofNat n.toNat).length = len := by simp; omega
    refine ⟨_, (zs.take len).map fun n => UInt8.ofNat n.toNat, hcs, ⟨_, cap, by rw [hlen], by rw [hlen]; exact hl, hm, .inr ⟨b, o, s, rfl, fun h => hs (Nat.pos_of_ne_zero fun h0 => by subst h0; simp at h), fun i hi => ?_⟩⟩, .inr ⟨_, _, rfl, by simp [lits]⟩⟩
    rw [hlen] at hi
    obtain rfl := hs (by omega)
    have h := hcell i (by omega)
    rw [show ((⟨b, o, none⟩ : Addr).add i) = ⟨b, o + i, none⟩ from by unfold Addr.add; split <;> simp_all] at h
    rw [h]
    have hb : 0 ≤ zs.getD i 0 ∧ zs.getD i 0 ≤ 255 := by
      have hmem : zs.getD i 0 ∈ zs := by
        rw [List.getD_eq_getElem?_getD, List.getElem?_eq_getElem (by omega)]
        exact List.getElem_mem _
      simpa [Lit.wf, IntKind.min, IntKind.max, IntKind.signed, IntKind.bits] using hwz _ hmem
    simp only [List.getElem_map, List.getElem_take]
    have e : zs.getD i 0 = zs[i]'(by omega) := by simp [List.getD, List.getElem?_eq_getElem (show i < zs.length by omega)]
    rw [e] at hb ⊢
    unfold byte
    congr 2
    simp only [UInt8.toNat_ofNat']
    omega

end

end Go.Sb
