/- HeapStays answers true, whatever it is handed, and leaves that as it was; no condition. -/
import Derived.Test.YtikimfdijkejpaaHpActs
import Derived.Test.YtikimfdijkejpaaHpStays
namespace Go.Proofs.Ytikimfdijkejpaa.stays
open Go.ChangeShapes Go.WideShapes Go.ChangeAt Go.RowKit Go.Sb

theorem cells52 : Try.prog.cellsOf 52 = 2 := by kernel_rfl
theorem bytes52 : Try.prog.bytesOf 52 = 16 := by kernel_rfl

set_option maxRecDepth 100000 in
theorem open_things {H : Type} {enc : TypeId × Value → H} {W : World} {fuel : Nat} {cs : List Value} {x : DataW H × List MemPlace} (h : DataW.trod enc Try.prog W 0 (fun _ => true) true fuel 76 cs = some x) :
    cs = [.slice none 0 0] ∨ ∃ (b o len cap : Nat) (sp : Option Nat) (th : Nat → Int × Int) (elems spare : List (DataW H)), cs = [.slice (some ⟨b, o, sp⟩) len cap] ∧ x.1 = .slice elems spare ∧ elems.length = len ∧
      ThingsAt W (some ⟨b, o, sp⟩) b o len th := by
  rcases Deep.open_slice Try.underlying76 h with ⟨rfl, _⟩ | ⟨a, len, cap, m, n, D, Pl, rfl, _, hl, _, hm, rfl, hel⟩
  · exact .inl rfl
  · right
    have hlm : len ≤ m := by rw [hm]; split <;> omega
    obtain ⟨b, o, sp⟩ := a
    have hsp : 0 < len → sp = none := fun h0 => by
      obtain ⟨cs', h1, _⟩ := hel 0 (by omega)
      rw [cells52] at h1
      obtain ⟨_, hlen, hcell⟩ := World.cells?_some h1
      obtain ⟨v0, v1, rfl⟩ := two' cs' hlen
      have g := hcell 0 (by omega)
      rw [Deep.add_add] at g
      have g0 : W.cell? ((⟨b, o, sp⟩ : Addr).add 0) = some v0 := by simpa using g
      rw [show (⟨b, o, sp⟩ : Addr).add 0 = ⟨b, o, sp⟩ from by unfold Addr.add; simp] at g0
      exact World.cell?_spot g0
    have each : ∀ i, i < len → ∃ q : Int × Int, (sp = none) ∧ W.cell? ⟨b, o + i * 2, none⟩ = some (.int .i64 q.1) ∧ W.cell? ⟨b, o + i * 2 + 1, none⟩ = some (.int .i64 q.2) := by
      intro i hi
      obtain ⟨cs', h1, h2⟩ := hel i (by omega)
      rw [cells52] at h1
      obtain ⟨_, hlen, hcell⟩ := World.cells?_some h1
      obtain ⟨xs, k, _, _, _, hxl, hf⟩ := DataW.trod_struct Try.underlying52 h2
      obtain ⟨v0, v1, rfl⟩ := two' cs' hlen
      obtain ⟨y0, y1, rfl⟩ := two' xs hxl
      have cl3 : Try.prog.cellsOf 3 = 1 := by kernel_rfl
      obtain ⟨q0, e0, _⟩ := DataW.trod_int Try.underlying3 (hf 0 _ rfl)
      obtain ⟨q1, e1, _⟩ := DataW.trod_int Try.underlying3 (hf 1 _ rfl)
      simp [cl3] at e0 e1
      subst e0 e1
      have g0 := hcell 0 (by omega)
      have g1 := hcell 1 (by omega)
      rw [Deep.add_add] at g0 g1
      obtain rfl := hsp (by omega)
      have ha : ∀ j : Nat, (⟨b, o, none⟩ : Addr).add j = ⟨b, o + j, none⟩ := fun j => by unfold Addr.add; split <;> simp_all
      rw [ha] at g0 g1
      refine ⟨(q0, q1), rfl, ?_, ?_⟩
      · simpa using g0
      · simpa [Nat.add_assoc] using g1
    obtain ⟨th, hth⟩ := Deep.choose_lt each
    exact ⟨b, o, len, cap, sp, th, _, _, rfl, rfl, by simp, fun h0 => by rw [(hth 0 h0).1], fun i hi => (hth i hi).2⟩

set_option maxRecDepth 100000 in
theorem lifted (os : Os) (started : os.Started) (H : Type) (enc : TypeId × Value → H) :
    ReturnsInHanded {} Try.checked os 7 .any (Rows.heapStaysSpec.pre6 enc Try.prog Try.f7 Rows.heapStaysRow.domain false) (Rows.heapStaysSpec.post enc Try.prog Try.f7 false true false false) := by
  refine returnsInHanded_of_change_sized (C := Try.checked) own' started (by kernel_rfl) Try.func7
    (ChangeSpec.witness6 (enc := enc) (C := Try.checked) false ⟨#[], #[.slice none 0 0, .slice none 0 0], []⟩ 8 (by kernel_rfl) (by kernel_rfl) (by kernel_rfl) (by kernel_rfl)) ?_
  intro W base args ds gs before hval0 hW _ hsz _
  have hval : ∀ (j : Nat) t v, Try.f7.params[j]? = some t → args[j]? = some v → Value.okWide Try.prog W .any base t v := hval0
  have hW' := hW
  obtain ⟨p, q, hA0, hV, rfl, _, _⟩ := hW
  have hA : DataW.TrodAll enc Try.prog W 0 (fun _ => true) true Try.f7.params.toList args.toList ds p := hA0
  rw [Try.params7] at hA hval
  obtain ⟨v0, v1, d0, d1, p0, p1, rfl, rfl, rfl, h0, h1⟩ := trodAll_two hA
  obtain ⟨rfl, rfl⟩ := trodVars_none hV
  obtain ⟨a0, len, cap, rfl⟩ := okWide_slice Try.underlying76 (hval 0 76 v0 rfl rfl)
  obtain ⟨a1, len1, cap1, rfl⟩ := okWide_slice Try.underlying48 (hval 1 48 v1 rfl rfl)
  obtain ⟨fuel, hf⟩ := h0
  obtain ⟨fuel1, hf1⟩ := h1
  have hps : ∀ t ∈ Try.f7.params.toList, Try.prog.readableRec t = true ∧ t < Try.prog.types.size := by
    rw [Try.params7]
    intro t ht
    simp only [List.mem_cons, List.not_mem_nil, or_false] at ht
    rcases ht with rfl | rfl
    all_goals exact ⟨by kernel_rfl, of_decide_eq_true (by kernel_rfl)⟩
  obtain ⟨tb, tz, ts, hn, hts⟩ : ∃ (tb tz : Nat) (ts : Nat → Int × Int), len ≤ 8796093021952 ∧ ThingsAt W a0 tb tz len ts := by
    rcases open_things hf with hcs | ⟨b, o, len', cap', sp, th, elems, spare, hcs, hx, hel, hth⟩
    · simp [Value.cells] at hcs
      obtain ⟨rfl, rfl, rfl⟩ := hcs
      exact ⟨0, 0, fun _ => (0, 0), by omega, fun h => absurd h (by omega), fun i hi => absurd hi (by omega)⟩
    · simp [Value.cells] at hcs
      obtain ⟨rfl, rfl, rfl⟩ := hcs
      dsimp only at hx
      have hs := sized_slice hsz (j := 0) (t := 76) (elems := elems) (spare := spare) rfl (by simp [hx]) Try.underlying76
      rw [show Try.checked.prog.bytesOf 52 = 16 from bytes52] at hs
      unfold reachBytes at hs
      exact ⟨b, o, th, by omega, hth⟩
  obtain ⟨lb, lo, th, hdn, hth⟩ : ∃ (lb lo : Nat) (th : Nat → Int × Int × Int × (Int × Int)), len1 ≤ 4398046511104 ∧ ActsAt W a1 lb lo len1 th := by
    rcases open_acts hf1 with hcs | ⟨b, o, len', cap', sp, th, elems, spare, hcs, hx, hel, hth⟩
    · simp [Value.cells] at hcs
      obtain ⟨rfl, rfl, rfl⟩ := hcs
      exact ⟨0, 0, fun _ => (0, 0, 0, (0, 0)), by omega, fun h => absurd h (by omega), fun i hi => absurd hi (by omega)⟩
    · simp [Value.cells] at hcs
      obtain ⟨rfl, rfl, rfl⟩ := hcs
      dsimp only at hx
      have hs := sized_slice hsz (j := 1) (t := 48) (elems := elems) (spare := spare) rfl (by simp [hx]) Try.underlying48
      rw [show Try.checked.prog.bytesOf 55 = 40 from bytes55] at hs
      unfold reachBytes at hs
      exact ⟨b, o, th, by omega, hth⟩
  refine (stays_any a0 tb tz len cap ts a1 lb lo len1 cap1 th W hn hdn hts hth).mono fun e W' ⟨he, hg⟩ => ⟨_, he, ?_⟩
  exact law_post (tb := 4) (by kernel_rfl) Try.underlying4 laidOut' hps rfl hW' rfl (hg.below (fun _ h => h.elim) (Nat.le_refl _))

theorem heapStays_holds : Rows.HeapStaysSaid :=
  OpenClaim.holds_of_wide 7 Try.f7 rfl rfl rfl rfl rfl rfl rfl ⟨rfl, rfl, rfl, rfl, rfl⟩ rfl rfl rfl rfl rfl (by kernel_rfl) Try.func7 (by kernel_rfl)
    (of_decide_eq_true (by kernel_rfl)) (by unfold Func.isWrapper; first | (rw [if_pos (by decide +kernel)]; kernel_rfl) | (rw [if_neg (by decide +kernel)]; exact ⟨rfl, rfl⟩))
    (fun os started H enc _ => lifted os started H enc)
#print axioms heapStays_holds
end Go.Proofs.Ytikimfdijkejpaa.stays
