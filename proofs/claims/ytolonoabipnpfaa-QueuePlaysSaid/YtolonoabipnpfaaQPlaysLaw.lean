/- QueuePlays answers true, whatever it is handed, and leaves that as it was; no condition. -/
import Derived.Test.YtolonoabipnpfaaQPlays
import Derived.Test.YtolonoabipnpfaaClose
import Derived.Deep.Slices
import Derived.SizedLaws
namespace Go.Proofs.Ytolonoabipnpfaa.plays
open Go.ChangeShapes Go.WideShapes Go.ChangeAt Go.RowKit Go.Sb

theorem own : ownKnob Try.prog.godebug = none := by kernel_rfl
theorem laidOut : laidOutB Try.prog = true := by kernel_rfl
theorem cells63 : Try.prog.cellsOf 63 = 4 := by kernel_rfl
theorem bytes63 : Try.prog.bytesOf 63 = 32 := by kernel_rfl

theorem four {α : Type} (l : List α) (h : l.length = 4) : ∃ a b c d, l = [a, b, c, d] := by
  match l, h with
  | [a, b, c, d], _ => exact ⟨a, b, c, d, rfl⟩

theorem range64 {n : Int} (h : (Lit.int .i64 n).wf = true) : -9223372036854775808 ≤ n ∧ n ≤ 9223372036854775807 := by
  simpa [Lit.wf, IntKind.min, IntKind.max, IntKind.signed, IntKind.bits] using h

set_option maxRecDepth 100000 in
theorem open_steps {H : Type} {enc : TypeId × Value → H} {W : World} {fuel : Nat} {cs : List Value} {x : DataW H × List MemPlace} (h : DataW.trod enc Try.prog W 0 (fun _ => true) true fuel 53 cs = some x) :
    cs = [.slice none 0 0] ∨ ∃ (b o len cap : Nat) (sp : Option Nat) (th : Nat → Int × Int × Int × Int) (elems spare : List (DataW H)), cs = [.slice (some ⟨b, o, sp⟩) len cap] ∧ (0 < len → sp = none) ∧ x.1 = .slice elems spare ∧ elems.length = len ∧
      ∀ i, i < len → (W.cell? ⟨b, o + i * 4, none⟩ = some (.int .i64 (th i).1) ∧ W.cell? ⟨b, o + i * 4 + 1, none⟩ = some (.int .i64 (th i).2.1) ∧ W.cell? ⟨b, o + i * 4 + 2, none⟩ = some (.int .i64 (th i).2.2.1) ∧ W.cell? ⟨b, o + i * 4 + 3, none⟩ = some (.int .i64 (th i).2.2.2)) ∧
        (-9223372036854775808 ≤ (th i).2.1 ∧ (th i).2.1 ≤ 9223372036854775807) ∧ (-9223372036854775808 ≤ (th i).2.2.1 ∧ (th i).2.2.1 ≤ 9223372036854775807) := by
  rcases Deep.open_slice Try.underlying53 h with ⟨rfl, _⟩ | ⟨a, len, cap, m, n, D, Pl, rfl, _, hl, _, hm, rfl, hel⟩
  · exact .inl rfl
  · right
    have hlm : len ≤ m := by rw [hm]; split <;> omega
    obtain ⟨b, o, sp⟩ := a
    have hsp : 0 < len → sp = none := fun h0 => by
      obtain ⟨cs', h1, _⟩ := hel 0 (by omega)
      rw [cells63] at h1
      obtain ⟨_, hlen, hcell⟩ := World.cells?_some h1
      obtain ⟨v0, v1, v2, v3, rfl⟩ := four cs' hlen
      have g := hcell 0 (by omega)
      rw [Deep.add_add] at g
      have g0 : W.cell? ((⟨b, o, sp⟩ : Addr).add 0) = some v0 := by simpa using g
      rw [show (⟨b, o, sp⟩ : Addr).add 0 = ⟨b, o, sp⟩ from by unfold Addr.add; simp] at g0
      exact World.cell?_spot g0
    have each : ∀ i, i < len → ∃ q : Int × Int × Int × Int, (sp = none) ∧ (W.cell? ⟨b, o + i * 4, none⟩ = some (.int .i64 q.1) ∧ W.cell? ⟨b, o + i * 4 + 1, none⟩ = some (.int .i64 q.2.1) ∧ W.cell? ⟨b, o + i * 4 + 2, none⟩ = some (.int .i64 q.2.2.1) ∧ W.cell? ⟨b, o + i * 4 + 3, none⟩ = some (.int .i64 q.2.2.2)) ∧
        (-9223372036854775808 ≤ q.2.1 ∧ q.2.1 ≤ 9223372036854775807) ∧ (-9223372036854775808 ≤ q.2.2.1 ∧ q.2.2.1 ≤ 9223372036854775807) := by
      intro i hi
      obtain ⟨cs', h1, h2⟩ := hel i (by omega)
      rw [cells63] at h1
      obtain ⟨_, hlen, hcell⟩ := World.cells?_some h1
      obtain ⟨xs, k, _, _, _, hxl, hf⟩ := DataW.trod_struct Try.underlying63 h2
      obtain ⟨v0, v1, v2, v3, rfl⟩ := four cs' hlen
      obtain ⟨y0, y1, y2, y3, rfl⟩ := four xs hxl
      have cl3 : Try.prog.cellsOf 3 = 1 := by kernel_rfl
      obtain ⟨q0, e0, _⟩ := DataW.trod_int Try.underlying3 (hf 0 _ rfl)
      obtain ⟨q1, e1, _, w1⟩ := DataW.trod_int Try.underlying3 (hf 1 _ rfl)
      obtain ⟨q2, e2, _, w2⟩ := DataW.trod_int Try.underlying3 (hf 2 _ rfl)
      obtain ⟨q3, e3, _⟩ := DataW.trod_int Try.underlying3 (hf 3 _ rfl)
      simp [cl3] at e0 e1 e2 e3
      subst e0 e1 e2 e3
      have g0 := hcell 0 (by omega)
      have g1 := hcell 1 (by omega)
      have g2 := hcell 2 (by omega)
      have g3 := hcell 3 (by omega)
      rw [Deep.add_add] at g0 g1 g2 g3
      obtain rfl := hsp (by omega)
      have ha : ∀ j : Nat, (⟨b, o, none⟩ : Addr).add j = ⟨b, o + j, none⟩ := fun j => by unfold Addr.add; split <;> simp_all
      rw [ha] at g0 g1 g2 g3
      refine ⟨(q0, q1, q2, q3), rfl, ⟨?_, ?_, ?_, ?_⟩, range64 w1, range64 w2⟩
      · simpa using g0
      · simpa [Nat.add_assoc] using g1
      · simpa [Nat.add_assoc] using g2
      · simpa [Nat.add_assoc] using g3
    obtain ⟨th, hth⟩ := Deep.choose_lt each
    exact ⟨b, o, len, cap, sp, th, _, _, rfl, fun h0 => (hth 0 h0).1, rfl, by simp, fun i hi => (hth i hi).2⟩

set_option maxRecDepth 100000 in
theorem lifted (os : Os) (started : os.Started) (H : Type) (enc : TypeId × Value → H) :
    ReturnsInHanded {} Try.checked os 5 .any (Rows.queuePlaysSpec.pre6 enc Try.prog Try.f5 Rows.queuePlaysRow.domain false) (Rows.queuePlaysSpec.post enc Try.prog Try.f5 false true false false) := by
  refine returnsInHanded_of_change_sized (C := Try.checked) own started (by kernel_rfl) Try.func5
    (ChangeSpec.witness6 (enc := enc) (C := Try.checked) false ⟨#[], #[.slice none 0 0], []⟩ 8 (by kernel_rfl) (by kernel_rfl) (by kernel_rfl) (by kernel_rfl)) ?_
  intro W base args ds gs before hval0 hW _ hsz _
  have hval : ∀ (j : Nat) t v, Try.f5.params[j]? = some t → args[j]? = some v → Value.okWide Try.prog W .any base t v := hval0
  have hW' := hW
  obtain ⟨p, q, hA0, hV, rfl, _, _⟩ := hW
  have hA : DataW.TrodAll enc Try.prog W 0 (fun _ => true) true Try.f5.params.toList args.toList ds p := hA0
  rw [Try.params5] at hA hval
  obtain ⟨v0, vs0, d0, ds0, p0, q0, hargs, rfl, rfl, h0, r0⟩ := trodAll_cons hA
  obtain ⟨rfl, rfl, rfl⟩ := trodAll_nil r0
  obtain rfl : args = #[v0] := by cases args; simp_all
  obtain ⟨rfl, rfl⟩ := trodVars_none hV
  obtain ⟨a0, len, cap, rfl⟩ := okWide_slice Try.underlying53 (hval 0 53 v0 rfl rfl)
  obtain ⟨fuel, hf⟩ := h0
  have hps : ∀ t ∈ Try.f5.params.toList, Try.prog.readableRec t = true ∧ t < Try.prog.types.size := by
    rw [Try.params5]
    intro t ht
    simp only [List.mem_cons, List.not_mem_nil, or_false] at ht
    subst ht
    exact ⟨by kernel_rfl, of_decide_eq_true (by kernel_rfl)⟩
  have fin : Calls Try.prog 5 #[.slice a0 len cap] W fun e w' => e = .returned (.bool true) ∧ Fr (fun _ => False) W w' := by
    rcases open_steps hf with hcs | ⟨b, o, len', cap', sp, th, elems, spare, hcs, hsp, hx, hel, hth⟩
    · simp [Value.cells] at hcs
      obtain ⟨rfl, rfl, rfl⟩ := hcs
      exact plays_any none 0 0 0 0 (fun _ => (0, 0, 0, 0)) W (fun h => absurd h (by omega)) (by omega) (fun i hi => absurd hi (by omega)) (fun i hi => absurd hi (by omega))
    · simp [Value.cells] at hcs
      obtain ⟨rfl, rfl, rfl⟩ := hcs
      dsimp only at hx
      have hs := sized_slice hsz (j := 0) (t := 53) (elems := elems) (spare := spare) rfl (by simp [hx]) Try.underlying53
      rw [show Try.checked.prog.bytesOf 63 = 32 from bytes63] at hs
      unfold reachBytes at hs
      exact plays_any (some ⟨b, o, sp⟩) b o len cap th W (fun h => by rw [hsp h]) (by omega) (fun i hi => (hth i hi).1) (fun i hi => (hth i hi).2)
  refine fin.mono fun e W' ⟨he, hg⟩ => ⟨_, he, ?_⟩
  exact law_post (tb := 4) (by kernel_rfl) Try.underlying4 laidOut hps rfl hW' rfl (hg.below (fun _ h => h.elim) (Nat.le_refl _))

theorem queuePlays_holds : Rows.QueuePlaysSaid :=
  OpenClaim.holds_of_wide 5 Try.f5 rfl rfl rfl rfl rfl rfl rfl ⟨rfl, rfl, rfl, rfl, rfl⟩ rfl rfl rfl rfl rfl (by kernel_rfl) Try.func5 (by kernel_rfl)
    (of_decide_eq_true (by kernel_rfl)) (by unfold Func.isWrapper; first | (rw [if_pos (by decide +kernel)]; kernel_rfl) | (rw [if_neg (by decide +kernel)]; exact ⟨rfl, rfl⟩))
    (fun os started H enc _ => lifted os started H enc)
#print axioms queuePlays_holds
end Go.Proofs.Ytolonoabipnpfaa.plays
