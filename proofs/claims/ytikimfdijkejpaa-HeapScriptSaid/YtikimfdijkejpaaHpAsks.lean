/- THE WALK of HeapAsks. -/
import Derived.Test.YtikimfdijkejpaaHpAsks0
import Derived.Test.YtikimfdijkejpaaHpShown
namespace Go.Proofs.Ytikimfdijkejpaa
open Go.RowKit Go.Sb Go.Proofs.Ytikimfdijkejpaa.HT

/-- A list of calls as it lies in memory. -/
def ActsAt (w : World) (la : Option Addr) (lb lo ln : Nat) (th : Nat → Int × Int × Int × (Int × Int)) : Prop := (0 < ln → la = some ⟨lb, lo, none⟩) ∧ ∀ i, i < ln →
  w.cell? ⟨lb, lo + i * 5, none⟩ = some (.int .i64 (th i).1) ∧ w.cell? ⟨lb, lo + i * 5 + 1, none⟩ = some (.int .i64 (th i).2.1) ∧ w.cell? ⟨lb, lo + i * 5 + 2, none⟩ = some (.int .i64 (th i).2.2.1) ∧
    w.cell? ⟨lb, lo + i * 5 + 3, none⟩ = some (.int .i64 (th i).2.2.2.1) ∧ w.cell? ⟨lb, lo + i * 5 + 4, none⟩ = some (.int .i64 (th i).2.2.2.2)

def AsksRel (w0 : World) (ba bh bm ln : Nat) (s : Value) (wr : World) : Prop := ∃ k c n : Nat, s = .int .i64 (k : Int) ∧ k ≤ ln ∧ c ≤ 400 * k ∧ AskInv w0 ba bh bm k c n wr

set_option maxRecDepth 100000 in
set_option maxHeartbeats 4000000 in
theorem asks_any (la : Option Addr) (lb lo ln lc : Nat) (th : Nat → Int × Int × Int × (Int × Int)) (w : World) (hlm : ln ≤ 4398046511104) (hcell : ActsAt w la lb lo ln th) :
    Calls Try.prog 5 #[.slice la ln lc] w fun e w' => e = .returned (.bool true) ∧ Fr (fun _ => False) w w' := by
  have HC := Lib.hid hcell
  clear hcell
  go_enter Try.func5, Try.ntmps5
  go_wp2_with (first
    | (go_at_call 8; refine (shown_any _).mono ?_; rintro e w1 ⟨rfl, hf1⟩; have HF1 := Lib.hid hf1; clear hf1)
    | (go_at_call 22; refine (new_any 23 #[.pointer (some ⟨w1.heap.size, 0, none⟩)] _).mono ?_; rintro e w2 ⟨bh, bm, rfl, hr, hf2⟩; have HR2 := Lib.hid hr; have HF2 := Lib.hid hf2; clear hr hf2))
  have hinv : AskInv w w1.heap.size bh bm 0 0 0 w2 := by
    have hs1 := HF1.out.size
    have hr := HR2.out
    rw [World.size_alloc] at hr
    exact ⟨⟨[], _, _, 0, hr.mono (fun j _ hj => ⟨by omega, by omega⟩), Int.le_refl _, Int.le_refl _, rfl, by simp⟩, Nat.le_refl _, ⟨0, HF2.out.get (heap_alloc_eq w1 (.cells #[.int .i64 0] 3)) id, fun _ => rfl⟩, (HF1.out.alloc _).trans HF2.out (fun _ _ h => h), hs1⟩
  have HINV := Lib.hid hinv
  clear hinv
  generalize w1.heap.size = ba at *
  go_loopw [17] (fun s wr => AsksRel w ba bh bm ln s wr) (fun s _ => ln - (intOf s).toNat)
  case atStart => exact ⟨0, 0, 0, rfl, Nat.zero_le _, Nat.le_refl _, HINV.out⟩
  case round =>
    obtain ⟨k, c, n, rfl, hk, hc, hinv⟩ := hrel
    by_cases hlt : k < ln
    · have hla := HC.out.1 (by omega)
      subst hla
      obtain ⟨e0, e1, e2, e3, e4⟩ := HC.out.2 k hlt
      have d0 := cell_fr hinv.fr e0 id
      have d1 := cell_fr hinv.fr e1 id
      have d2 := cell_fr hinv.fr e2 id
      have d3 := cell_fr hinv.fr e3 id
      have d4 := cell_fr hinv.fr e4 id
      have HI := Lib.hid hinv
      clear hinv e0 e1 e2 e3 e4
      generalize th k = q at *
      obtain ⟨qk, qa, qt, qr, qm⟩ := q
      dsimp only at d0 d1 d2 d3 d4
      go_wp2_with (fail)
      obtain ⟨v0, hv0, hvc0⟩ := HI.out.st
      obtain rfl := hvc0 (by omega)
      have hfx : Fr (fun _ => False) wr (wr.alloc (.cells #[.int .i64 qk, .int .i64 qa, .int .i64 qt, .int .i64 qr, .int .i64 qm] 55)) := (Fr.refl _ _).alloc _
      have hx := heap_alloc_eq wr (.cells #[.int .i64 qk, .int .i64 qa, .int .i64 qt, .int .i64 qr, .int .i64 qm] 55)
      have x0 := cell_is hx 0 rfl
      have x2 := cell_is hx 2 rfl
      have x3 := cell_is hx 3 rfl
      have x4 := cell_is hx 4 rfl
      have a0 : (wr.alloc (.cells #[.int .i64 qk, .int .i64 qa, .int .i64 qt, .int .i64 qr, .int .i64 qm] 55)).cell? ⟨ba, 0, none⟩ = some (.int .i64 (c : Int)) := cell_is (hfx.get hv0 id) 0 rfl
      have HIX := Lib.hid (HI.out.kept hfx)
      have hnl := HI.out.len
      have hln : Nat.log2 n ≤ 44 := Nat.le_trans (log_mono (show n ≤ 17592186044416 by omega)) (by decide)
      have hk43 : k < 8796093022208 := by omega
      clear d0 d1 d2 d3 d4 hv0 hvc0 hfx hx
      generalize wr.alloc (.cells #[.int .i64 qk, .int .i64 qa, .int .i64 qt, .int .i64 qr, .int .i64 qm] 55) = wx at *
      have hnl2 : n ≤ 4611686018427387904 := by omega
      go_quiet ((first | (go_at_call 25; exact Calls.quiet_of_same (asks_len (HIX.out.kept ((Fr.refl _ _).drewN _)))) | (go_at_call 24; exact Calls.quiet_of_same ((digits_any n _ hnl2).mono fun _ _ h => ⟨h.1, h.2.symm⟩))))
      have hkm : 0 ≤ qk % 6 ∧ qk % 6 < 6 := ⟨Int.emod_nonneg _ (by decide), Int.emod_lt_of_pos _ (by decide)⟩
      have hcases : qk % 6 = 0 ∨ qk % 6 = 1 ∨ qk % 6 = 2 ∨ qk % 6 = 3 ∨ qk % 6 = 4 ∨ qk % 6 = 5 := by omega
      clear hkm
      rcases hcases with hm | hm | hm | hm | hm | hm
      · have HM := Lib.hid hm
        clear hm
        go_wp2_with (first
          | (go_at_call 18; refine (among_any qk 6 _ (by decide) (by decide)).mono ?_; rintro e w3 ⟨rfl, rfl⟩; rw [HM.out])
          | (go_at_call 26; refine (asks_push (qr, qm) (HIX.out.kept ((Fr.refl _ _).drewN _)) hk43).mono ?_; rintro e w4 ⟨⟨v4, rfl⟩, c', n', hc1, hc2, hinv'⟩; obtain ⟨v5, hv5, hvc5⟩ := hinv'.st; obtain rfl := hvc5 (by omega); have a5 : w4.cell? ⟨ba, 0, none⟩ = some (.int .i64 (c' : Int)) := cell_is hv5 0 rfl; have HIV := Lib.hid hinv'; clear hv5 hvc5 hinv'))
        go_roundw
        case rel => exact ⟨k + 1, c', n', by go_num, by omega, by omega, HIV.out⟩
        case measure => simp [intOf]; omega
      · have HM := Lib.hid hm
        clear hm
        go_wp2_with (first
          | (go_at_call 18; refine (among_any qk 6 _ (by decide) (by decide)).mono ?_; rintro e w3 ⟨rfl, rfl⟩; rw [HM.out])
          | (go_at_call 26; refine (asks_push (qr, qm) (HIX.out.kept ((Fr.refl _ _).drewN _)) hk43).mono ?_; rintro e w4 ⟨⟨v4, rfl⟩, c', n', hc1, hc2, hinv'⟩; obtain ⟨v5, hv5, hvc5⟩ := hinv'.st; obtain rfl := hvc5 (by omega); have a5 : w4.cell? ⟨ba, 0, none⟩ = some (.int .i64 (c' : Int)) := cell_is hv5 0 rfl; have HIV := Lib.hid hinv'; clear hv5 hvc5 hinv'))
        go_roundw
        case rel => exact ⟨k + 1, c', n', by go_num, by omega, by omega, HIV.out⟩
        case measure => simp [intOf]; omega
      · have HM := Lib.hid hm
        clear hm
        go_wp2_with (first
          | (go_at_call 18; refine (among_any qk 6 _ (by decide) (by decide)).mono ?_; rintro e w3 ⟨rfl, rfl⟩; rw [HM.out])
          | (go_at_call 26; refine (asks_push (qr, qm) (HIX.out.kept ((Fr.refl _ _).drewN _)) hk43).mono ?_; rintro e w4 ⟨⟨v4, rfl⟩, c', n', hc1, hc2, hinv'⟩; obtain ⟨v5, hv5, hvc5⟩ := hinv'.st; obtain rfl := hvc5 (by omega); have a5 : w4.cell? ⟨ba, 0, none⟩ = some (.int .i64 (c' : Int)) := cell_is hv5 0 rfl; have HIV := Lib.hid hinv'; clear hv5 hvc5 hinv'))
        go_roundw
        case rel => exact ⟨k + 1, c', n', by go_num, by omega, by omega, HIV.out⟩
        case measure => simp [intOf]; omega
      · have HM := Lib.hid hm
        clear hm
        go_wp2_with (first
          | (go_at_call 18; refine (among_any qk 6 _ (by decide) (by decide)).mono ?_; rintro e w3 ⟨rfl, rfl⟩; rw [HM.out])
          | (go_at_call 27; refine (asks_pop (HIX.out.kept ((Fr.refl _ _).drewN _)) hk43).mono ?_; rintro e w4 ⟨⟨v4, rfl⟩, c', n', hc1, hc2, hinv'⟩; obtain ⟨v5, hv5, hvc5⟩ := hinv'.st; obtain rfl := hvc5 (by omega); have a5 : w4.cell? ⟨ba, 0, none⟩ = some (.int .i64 (c' : Int)) := cell_is hv5 0 rfl; have HIV := Lib.hid hinv'; clear hv5 hvc5 hinv'))
        go_roundw
        case rel => exact ⟨k + 1, c', n', by go_num, by omega, by omega, HIV.out⟩
        case measure => simp [intOf]; omega
      · have HM := Lib.hid hm
        clear hm
        go_wp2_with (first
          | (go_at_call 18; refine (among_any qk 6 _ (by decide) (by decide)).mono ?_; rintro e w3 ⟨rfl, rfl⟩; rw [HM.out])
          | (go_at_call 28; refine (asks_remove qt (HIX.out.kept ((Fr.refl _ _).drewN _)) hk43).mono ?_; rintro e w4 ⟨⟨v4, rfl⟩, c', n', hc1, hc2, hinv'⟩; obtain ⟨v5, hv5, hvc5⟩ := hinv'.st; obtain rfl := hvc5 (by omega); have a5 : w4.cell? ⟨ba, 0, none⟩ = some (.int .i64 (c' : Int)) := cell_is hv5 0 rfl; have HIV := Lib.hid hinv'; clear hv5 hvc5 hinv'))
        go_roundw
        case rel => exact ⟨k + 1, c', n', by go_num, by omega, by omega, HIV.out⟩
        case measure => simp [intOf]; omega
      · have HM := Lib.hid hm
        clear hm
        go_wp2_with (first
          | (go_at_call 18; refine (among_any qk 6 _ (by decide) (by decide)).mono ?_; rintro e w3 ⟨rfl, rfl⟩; rw [HM.out])
          | (go_at_call 29; refine (asks_change qt (qr, qm) (HIX.out.kept ((Fr.refl _ _).drewN _)) hk43).mono ?_; rintro e w4 ⟨⟨v4, rfl⟩, c', n', hc1, hc2, hinv'⟩; obtain ⟨v5, hv5, hvc5⟩ := hinv'.st; obtain rfl := hvc5 (by omega); have a5 : w4.cell? ⟨ba, 0, none⟩ = some (.int .i64 (c' : Int)) := cell_is hv5 0 rfl; have HIV := Lib.hid hinv'; clear hv5 hvc5 hinv'))
        go_roundw
        case rel => exact ⟨k + 1, c', n', by go_num, by omega, by omega, HIV.out⟩
        case measure => simp [intOf]; omega
    · go_wp2_with (fail)
      go_ret
      exact ⟨rfl, hinv.fr⟩

end Go.Proofs.Ytikimfdijkejpaa
