/- FrameRow answers true, whatever it is handed of the bound of its second form, and leaves that as it was. -/
import Derived.Test.YtgobbgklmjnnlaaFrRow
import Derived.Test.YtgobbgklmjnnlaaFrKit
import Derived.Test.YtgobbgklmjnnlaaOpenCells
import Derived.Deep.Slices
import Derived.JoinedCond
namespace Go.Proofs.Ytgobbgklmjnnlaa.row
open Go.ChangeShapes Go.WideShapes Go.ChangeAt Go.RowKit Go.Sb

theorem cells22 : Try.prog.cellsOf 22 = 1 := by kernel_rfl
instance : Inhabited (Value × List UInt8) := ⟨(.pointer none, [])⟩

set_option maxRecDepth 100000 in
theorem open_pays {H : Type} {enc : TypeId × Value → H} {W : World} {fuel : Nat} {cs : List Value} {x : DataW H × List MemPlace} (h : DataW.trod enc Try.prog W 0 (fun _ => true) true fuel 27 cs = some x) :
    cs = [.slice none 0 0] ∨ ∃ (a : Addr) (len cap : Nat) (ps : List (List UInt8)), cs = [.slice (some a) len cap] ∧ ps.length = len ∧ len ≤ cap ∧ cap ≤ maxLen ∧ Pay W (some a) a.block a.off ps := by
  rcases Deep.open_slice Try.underlying27 h with ⟨rfl, _⟩ | ⟨a, len, cap, m, n, D, Pl, rfl, _, hl, hcm, hm, _, hel⟩
  · exact .inl rfl
  · right
    have hlm : len ≤ m := by rw [hm]; split <;> omega
    obtain ⟨b, o, sp⟩ := a
    have each : ∀ i, i < len → ∃ q : Value × List UInt8, W.cell? ((⟨b, o, sp⟩ : Addr).add i) = some q.1 ∧ RB W q.1 q.2 := by
      intro i hi
      obtain ⟨cs', h1, h2⟩ := hel i (by omega)
      rw [cells22, Nat.mul_one] at h1
      obtain ⟨_, hlen, hcell⟩ := World.cells?_some h1
      obtain ⟨v, xs, rfl, hrb, _⟩ := cells_bytes Try.underlying22 Try.underlying5 cells5 h2
      have g := hcell 0 (by omega)
      rw [Deep.add_add] at g
      exact ⟨(v, xs), by simpa using g, hrb⟩
    obtain ⟨q, hq⟩ := Deep.choose_lt each
    have hsp : 0 < len → sp = none := fun h0 => by
      have g := (hq 0 h0).1
      rw [show (⟨b, o, sp⟩ : Addr).add 0 = ⟨b, o, sp⟩ from by unfold Addr.add; simp] at g
      exact World.cell?_spot g
    refine ⟨⟨b, o, sp⟩, len, cap, (List.range len).map (fun i => (q i).2), rfl, by simp, hl, hcm, ⟨fun h0 => ?_, fun k y hk => ?_⟩⟩
    · rw [hsp (by simpa using h0)]
    · have hkl : k < len := by have := (List.getElem?_eq_some_iff.1 hk).1; simpa using this
      rw [List.getElem?_map, List.getElem?_range hkl] at hk
      simp only [Option.map_some, Option.some.injEq] at hk
      subst hk
      obtain ⟨h1, h2⟩ := hq k hkl
      obtain rfl := hsp (by omega)
      refine ⟨_, ?_, h2⟩
      rw [show (⟨b, o, none⟩ : Addr).add k = ⟨b, o + k, none⟩ from by unfold Addr.add; split <;> simp_all] at h1
      exact h1

theorem bulk_part {H : Type} {d : DataW H} {l : List (DataW H)} (h : d ∈ l) : Rows.uptoBulk d ≤ Rows.uptoBulkAll l := by
  induction l with
  | nil => cases h
  | cons x r ih =>
    simp only [Rows.uptoBulkAll]
    cases List.mem_cons.1 h with
    | inl e => subst e; omega
    | inr e => have := ih e; omega

theorem bulk_one {H : Type} (d : DataW H) : 1 ≤ Rows.uptoBulk d := by
  cases d with
  | lit l => cases l <;> simp [Rows.uptoBulk]
  | nil => simp [Rows.uptoBulk]
  | ptr d => simp [Rows.uptoBulk]
  | slice elems spare => simp [Rows.uptoBulk]
  | agg parts => simp [Rows.uptoBulk]
  | iface t d => simp [Rows.uptoBulk]
  | map entries => simp [Rows.uptoBulk]
  | held h => simp [Rows.uptoBulk]

theorem bulk_len {H : Type} (l : List (DataW H)) : l.length ≤ Rows.uptoBulkAll l := by
  induction l with
  | nil => simp [Rows.uptoBulkAll]
  | cons x r ih => have := bulk_one x; simp only [Rows.uptoBulkAll, List.length_cons]; omega

theorem bulk_bytes {H : Type} {d : DataW H} {l : List (DataW H)} (h : d ∈ l) (hk : Rows.uptoSmall H l = true) {xs : List UInt8} (hx : xs = [] ∨ ∃ elems spare, d = .slice elems spare ∧ elems.length = xs.length) : xs.length ≤ 140737488351232 := by
  rcases hx with rfl | ⟨elems, spare, rfl, hl⟩
  · simp
  · have h1 : Rows.uptoBulkAll l ≤ 1048576 := of_decide_eq_true hk
    have h2 := bulk_part h
    have h3 := bulk_len elems
    simp only [Rows.uptoBulk] at h2
    omega

set_option maxRecDepth 100000 in
theorem lifted (os : Os) (started : os.Started) (H : Type) (enc : TypeId × Value → H) (F : Stop.Interp) :
    ReturnsInHanded {} Try.checked os 11 .any ((Rows.OpenSpec.upto Rows.frameRowSpec).pre6 enc Try.prog Try.f11 Rows.frameRowUptoRow.domain false) (((Rows.OpenSpec.upto Rows.frameRowSpec).at F).post enc Try.prog Try.f11 false true false false) := by
  refine returnsInHanded_of_cond (C := Try.checked) (s := Rows.OpenSpec.upto Rows.frameRowSpec) (k := Rows.uptoSmall) rfl own started (by kernel_rfl) Try.func11
    (OpenSpec.witness (enc := enc) (C := Try.checked) (s := Rows.OpenSpec.upto Rows.frameRowSpec) (k := Rows.uptoSmall) rfl false ⟨#[], #[.int .i64 0, .slice none 0 0, .slice none 0 0], []⟩ 8 (by kernel_rfl) (by kernel_rfl) (by kernel_rfl)
      (x := ([.lit (.int .i64 0), .nil, .nil], [], [])) (by kernel_rfl) rfl (by kernel_rfl)) ?_
  intro W base args ds gs before hval0 hW _ hk _
  have hval : ∀ (j : Nat) t v, Try.f11.params[j]? = some t → args[j]? = some v → Value.okWide Try.prog W .any base t v := hval0
  have hW' := hW
  obtain ⟨p, q, hA0, hV, rfl, _, _⟩ := hW
  have hA : DataW.TrodAll enc Try.prog W 0 (fun _ => true) true Try.f11.params.toList args.toList ds p := hA0
  rw [Try.params11] at hA hval
  obtain ⟨v0, vs0, d0, ds0, p0, q0, hargs, rfl, rfl, h0, r0⟩ := trodAll_cons hA
  obtain ⟨v1, vs1, d1, ds1, p1, q1, rfl, rfl, rfl, h1, r1⟩ := trodAll_cons r0
  obtain ⟨v2, vs2, d2, ds2, p2, q2, rfl, rfl, rfl, h2, r2⟩ := trodAll_cons r1
  obtain ⟨rfl, rfl, rfl⟩ := trodAll_nil r2
  obtain rfl : args = #[v0, v1, v2] := by cases args; simp_all
  obtain ⟨rfl, rfl⟩ := trodVars_none hV
  obtain ⟨file, rfl, rfl, rfl, wm⟩ := open_int Try.underlying3 (hval 0 3 v0 rfl rfl) h0
  obtain ⟨a0, len, cap, rfl⟩ := okWide_slice Try.underlying27 (hval 1 27 v1 rfl rfl)
  obtain ⟨x2, hb2, e2⟩ := open_bytes Try.underlying22 Try.underlying5 cells5 (hval 2 22 v2 rfl rfl) h2
  have s2 := bulk_bytes (d := d2) (by simp) hk e2
  obtain ⟨fuel, hf⟩ := h1
  obtain ⟨ba, bc, hv2, hb3⟩ : ∃ ba bc, v2 = .slice ba x2.length bc ∧ RB W (.slice ba x2.length bc) x2 := by
    obtain ⟨ba, bc, hv, r⟩ := hb2
    exact ⟨ba, bc, hv, ba, bc, rfl, r⟩
  subst hv2
  have hps : ∀ t ∈ Try.f11.params.toList, Try.prog.readableRec t = true ∧ t < Try.prog.types.size := by
    rw [Try.params11]
    intro t ht
    simp only [List.mem_cons, List.not_mem_nil, or_false] at ht
    rcases ht with rfl | rfl | rfl
    all_goals exact ⟨by kernel_rfl, of_decide_eq_true (by kernel_rfl)⟩
  have hfb := int_bounds wm
  have fin : Calls Try.prog 11 #[.int .i64 file, .slice a0 len cap, .slice ba x2.length bc] W fun e w' => e = .returned (.bool true) ∧ Fr (fun _ => False) W w' := by
    rcases open_pays hf with hcs | ⟨a, len', cap', ps, hcs, hpl, hl, hc, hpay⟩
    · simp [Value.cells] at hcs
      obtain ⟨rfl, rfl, rfl⟩ := hcs
      exact row_any file none 0 0 0 [] ba bc x2 W ⟨fun h => absurd h (by simp), fun k x h => by simp at h⟩ hb3 s2 (by simp) hfb.1 hfb.2
    · simp [Value.cells] at hcs
      obtain ⟨rfl, rfl, rfl⟩ := hcs
      subst hpl
      unfold maxLen at hc
      exact row_any file (some a) a.block a.off cap ps ba bc x2 W hpay hb3 s2 (by omega) hfb.1 hfb.2
  refine fin.mono fun e W' ⟨he, hg⟩ => ⟨_, he, ?_⟩
  exact law_post (tb := 4) (by kernel_rfl) Try.underlying4 laidOut hps rfl hW' rfl (hg.below (fun _ h => h.elim) (Nat.le_refl _))

theorem frameRow_holds : Rows.FrameRowUptoSaid :=
  OpenClaim.holds_of_cond 11 Try.f11 rfl rfl rfl rfl rfl rfl rfl ⟨rfl, rfl, rfl, rfl, rfl⟩ rfl rfl rfl rfl rfl (by kernel_rfl) Try.func11 (by kernel_rfl)
    (of_decide_eq_true (by kernel_rfl)) (by unfold Func.isWrapper; first | (rw [if_pos (by decide +kernel)]; kernel_rfl) | (rw [if_neg (by decide +kernel)]; exact ⟨rfl, rfl⟩))
    (fun os started H enc _ F => lifted os started H enc F)
#print axioms frameRow_holds
end Go.Proofs.Ytgobbgklmjnnlaa.row
