/- Lists of calls, of things, as laws are handed them: how they read. -/
import Derived.Test.YtikimfdijkejpaaHpAsks
import Derived.Test.YtikimfdijkejpaaClose
import Derived.Deep.Slices
import Derived.SizedLaws
namespace Go.Proofs.Ytikimfdijkejpaa
open Go.ChangeShapes Go.WideShapes Go.ChangeAt Go.RowKit Go.Sb

theorem own' : ownKnob Try.prog.godebug = none := by kernel_rfl
theorem laidOut' : laidOutB Try.prog = true := by kernel_rfl
theorem cells55 : Try.prog.cellsOf 55 = 5 := by kernel_rfl
theorem bytes55 : Try.prog.bytesOf 55 = 40 := by kernel_rfl

theorem two' {α : Type} (l : List α) (h : l.length = 2) : ∃ a b, l = [a, b] := by
  match l, h with
  | [a, b], _ => exact ⟨a, b, rfl⟩
theorem four' {α : Type} (l : List α) (h : l.length = 4) : ∃ a b c d, l = [a, b, c, d] := by
  match l, h with
  | [a, b, c, d], _ => exact ⟨a, b, c, d, rfl⟩
theorem five' {α : Type} (l : List α) (h : l.length = 5) : ∃ a b c d e, l = [a, b, c, d, e] := by
  match l, h with
  | [a, b, c, d, e], _ => exact ⟨a, b, c, d, e, rfl⟩

set_option maxRecDepth 100000 in
theorem open_acts {H : Type} {enc : TypeId × Value → H} {W : World} {fuel : Nat} {cs : List Value} {x : DataW H × List MemPlace} (h : DataW.trod enc Try.prog W 0 (fun _ => true) true fuel 48 cs = some x) :
    cs = [.slice none 0 0] ∨ ∃ (b o len cap : Nat) (sp : Option Nat) (th : Nat → Int × Int × Int × (Int × Int)) (elems spare : List (DataW H)), cs = [.slice (some ⟨b, o, sp⟩) len cap] ∧ x.1 = .slice elems spare ∧ elems.length = len ∧
      ActsAt W (some ⟨b, o, sp⟩) b o len th := by
  rcases Deep.open_slice Try.underlying48 h with ⟨rfl, _⟩ | ⟨a, len, cap, m, n, D, Pl, rfl, _, hl, _, hm, rfl, hel⟩
  · exact .inl rfl
  · right
    have hlm : len ≤ m := by rw [hm]; split <;> omega
    obtain ⟨b, o, sp⟩ := a
    have hsp : 0 < len → sp = none := fun h0 => by
      obtain ⟨cs', h1, _⟩ := hel 0 (by omega)
      rw [cells55] at h1
      obtain ⟨_, hlen, hcell⟩ := World.cells?_some h1
      obtain ⟨v0, v1, v2, v3, v4, rfl⟩ := five' cs' hlen
      have g := hcell 0 (by omega)
      rw [Deep.add_add] at g
      have g0 : W.cell? ((⟨b, o, sp⟩ : Addr).add 0) = some v0 := by simpa using g
      rw [show (⟨b, o, sp⟩ : Addr).add 0 = ⟨b, o, sp⟩ from by unfold Addr.add; simp] at g0
      exact World.cell?_spot g0
    have each : ∀ i, i < len → ∃ q : Int × Int × Int × (Int × Int), (sp = none) ∧ W.cell? ⟨b, o + i * 5, none⟩ = some (.int .i64 q.1) ∧ W.cell? ⟨b, o + i * 5 + 1, none⟩ = some (.int .i64 q.2.1) ∧ W.cell? ⟨b, o + i * 5 + 2, none⟩ = some (.int .i64 q.2.2.1) ∧
        W.cell? ⟨b, o + i * 5 + 3, none⟩ = some (.int .i64 q.2.2.2.1) ∧ W.cell? ⟨b, o + i * 5 + 4, none⟩ = some (.int .i64 q.2.2.2.2) := by
      intro i hi
      obtain ⟨cs', h1, h2⟩ := hel i (by omega)
      rw [cells55] at h1
      obtain ⟨_, hlen, hcell⟩ := World.cells?_some h1
      obtain ⟨xs, k, _, _, _, hxl, hf⟩ := DataW.trod_struct Try.underlying55 h2
      obtain ⟨v0, v1, v2, v3, v4, rfl⟩ := five' cs' hlen
      obtain ⟨y0, y1, y2, y3, rfl⟩ := four' xs hxl
      have cl3 : Try.prog.cellsOf 3 = 1 := by kernel_rfl
      have cl52 : Try.prog.cellsOf 52 = 2 := by kernel_rfl
      obtain ⟨q0, e0, _⟩ := DataW.trod_int Try.underlying3 (hf 0 _ rfl)
      obtain ⟨q1, e1, _⟩ := DataW.trod_int Try.underlying3 (hf 1 _ rfl)
      obtain ⟨q2, e2, _⟩ := DataW.trod_int Try.underlying3 (hf 2 _ rfl)
      obtain ⟨ys, k2, _, _, _, hyl, hg⟩ := DataW.trod_struct Try.underlying52 (hf 3 _ rfl)
      obtain ⟨z0, z1, rfl⟩ := two' ys hyl
      obtain ⟨q3, e3, _⟩ := DataW.trod_int Try.underlying3 (hg 0 _ rfl)
      obtain ⟨q4, e4, _⟩ := DataW.trod_int Try.underlying3 (hg 1 _ rfl)
      simp [cl3, cl52] at e0 e1 e2 e3 e4
      subst e0 e1 e2 e3 e4
      have g0 := hcell 0 (by omega)
      have g1 := hcell 1 (by omega)
      have g2 := hcell 2 (by omega)
      have g3 := hcell 3 (by omega)
      have g4 := hcell 4 (by omega)
      rw [Deep.add_add] at g0 g1 g2 g3 g4
      obtain rfl := hsp (by omega)
      have ha : ∀ j : Nat, (⟨b, o, none⟩ : Addr).add j = ⟨b, o + j, none⟩ := fun j => by unfold Addr.add; split <;> simp_all
      rw [ha] at g0 g1 g2 g3 g4
      refine ⟨(q0, q1, q2, q3, q4), rfl, ?_, ?_, ?_, ?_, ?_⟩
      · simpa using g0
      · simpa [Nat.add_assoc] using g1
      · simpa [Nat.add_assoc] using g2
      · simpa [Nat.add_assoc] using g3
      · simpa [Nat.add_assoc] using g4
    obtain ⟨th, hth⟩ := Deep.choose_lt each
    exact ⟨b, o, len, cap, sp, th, _, _, rfl, rfl, by simp, fun h0 => by rw [(hth 0 h0).1], fun i hi => (hth i hi).2⟩

end Go.Proofs.Ytikimfdijkejpaa
