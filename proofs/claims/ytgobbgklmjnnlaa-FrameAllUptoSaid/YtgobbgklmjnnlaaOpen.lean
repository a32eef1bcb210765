/- A slice of bytes that a law was handed: how it reads. -/
import Derived.Test.YtgobbgklmjnnlaaBytes
import Derived.Test.YtgobbgklmjnnlaaClose
import Derived.SizedLaws
namespace Go.Sb
open Go.ChangeShapes Go.WideShapes Go.ChangeAt Go.RowKit

section
variable {H : Type} {enc : TypeId × Value → H} {P : Program}

theorem open_bytes {t e : TypeId} (ht : P.underlying t = some (.slice e)) (he : P.underlying e = some (.int .u8)) (hc : P.cellsOf e = 1) {W : World} {base : Nat} {v : Value} {d : DataW H} {p : List MemPlace}
    (hval : Value.okWide P W .any base t v) (h : DataW.Trod enc P W 0 (fun _ => true) true t v d p) :
    ∃ xs : List UInt8, RB W v xs ∧ (xs = [] ∨ ∃ elems spare, d = .slice elems spare ∧ elems.length = xs.length) := by
  obtain ⟨a0, len, cap, rfl⟩ := okWide_slice ht hval
  obtain ⟨fuel, hf⟩ := h
  rcases open_ints ht he hc hf with ⟨hcs, hx⟩ | ⟨a, len', cap', zs, hcs, _, hl, hm, hz, hx, hcell, hwz⟩
  · simp [Value.cells] at hcs
    obtain ⟨rfl, rfl, rfl⟩ := hcs
    exact ⟨[], RB.nil W, .inl rfl⟩
  · simp [Value.cells] at hcs
    obtain ⟨rfl, rfl, rfl⟩ := hcs
    simp only [if_true] at hz
    simp only [Prod.mk.injEq] at hx
    obtain ⟨rfl, _⟩ := hx
    obtain ⟨b, o, s⟩ := a
    have hs : 0 < len → s = none := fun h0 => by simpa [Addr.add] using World.cell?_spot (hcell 0 (by omega))
    have hlen : ((zs.take len).map fun n => UInt8.ofNat n.toNat).length = len := by simp; omega
    refine ⟨(zs.take len).map fun n => UInt8.ofNat n.toNat, ⟨_, cap, by rw [hlen], by rw [hlen]; exact hl, hm, .inr ⟨b, o, s, rfl, fun h => hs (Nat.pos_of_ne_zero fun h0 => by subst h0; simp at h), fun i hi => ?_⟩⟩, .inr ⟨_, _, rfl, by simp [lits]⟩⟩
    rw [hlen] at hi
    obtain rfl := hs (by omega)
    have h := hcell i (by omega)
    rw [show ((⟨b, o, none⟩ : Addr).add i) = ⟨b, o + i, none⟩ from by unfold Addr.add; split <;> simp_all] at h
    rw [h]
    have hb : 0 ≤ zs.getD i 0 ∧ zs.getD i 0 ≤ 255 := by
      have hmem : zs.getD i 0 ∈ zs := by
        rw [List.getD_eq_getElem?_getD, List.getElem?_eq_getElem (by omega)]
        exact List.getElem_mem _
      simpa [Lit.wf, IntKind.min, IntKind.max, IntKind.signed, IntKind.bits] using hwz _ hmem
    simp only [List.getElem_map, List.getElem_take]
    have e : zs.getD i 0 = zs[i]'(by omega) := by simp [List.getD, List.getElem?_eq_getElem (show i < zs.length by omega)]
    rw [e] at hb ⊢
    unfold byte
    congr 2
    simp only [UInt8.toNat_ofNat']
    omega

/-- what came in is no longer than the form lets it be -/
theorem short_bytes {ts : List TypeId} {ds : List (DataW H)} (h : (DataW.weightsEach P ts ds).all (· ≤ reachBytes) = true) {j : Nat} {t e : TypeId} {d : DataW H} {xs : List UInt8} (ht : ts[j]? = some t) (hd : ds[j]? = some d)
    (hu : P.underlying t = some (.slice e)) (hb : P.bytesOf e = 1) (hx : xs = [] ∨ ∃ elems spare, d = .slice elems spare ∧ elems.length = xs.length) : xs.length ≤ 140737488351232 := by
  rcases hx with rfl | ⟨elems, spare, rfl, hl⟩
  · simp
  · have := sized_slice h ht hd hu
    rw [hb] at this
    unfold reachBytes at this
    omega
end

theorem int_bounds {z : Int} (h : (Lit.int .i64 z).wf = true) : -9223372036854775808 ≤ z ∧ z ≤ 9223372036854775807 := by
  simpa [Lit.wf, IntKind.min, IntKind.max, IntKind.signed, IntKind.bits] using h

end Go.Sb
