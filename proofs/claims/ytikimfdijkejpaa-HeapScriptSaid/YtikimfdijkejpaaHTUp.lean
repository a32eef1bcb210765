/- The heap at one type of things: up. -/
import Derived.Test.YtikimfdijkejpaaHTAhead
namespace Go.Proofs.Ytikimfdijkejpaa.HT
open Go.RowKit Go.Sb

def UpRel (key : Int × Int → Int) (St : Nat → World → Prop) (F Sb : Nat → Prop) (w : World) (bh bm : Nat) (fv lv : Value) (g : Int) (L : List (Int × (Int × Int))) (i c : Nat) (s : Value) (wr : World) : Prop :=
  ∃ (k : Nat) (L' : List (Int × (Int × Int))) (m' : List (Int × Value)) (c' : Nat), s = .int .i64 (k : Int) ∧ k ≤ i ∧ upL key L' k = upL key L i ∧ L'.Perm L ∧ HRep 99 101 3 F wr bh fv g (L'.map en) lv bm m' ∧
    c ≤ c' ∧ c' + 2 * Nat.log2 (k + 1) ≤ c + 2 * Nat.log2 (i + 1) ∧ St c' wr ∧ Fr (fun k => F k ∨ Sb k) w wr

set_option maxRecDepth 100000 in
set_option maxHeartbeats 2000000 in
theorem up_any {fid : Nat} {caps : Array Value} {okx : Int × Int → Prop} {key : Int × Int → Int} {St : Nat → World → Prop} {Sb : Nat → Prop} (B : BSpec Try.prog fid caps thV okx (bk key) St Sb)
    {F : Nat → Prop} {bh bm : Nat} {lv : Value} {g : Int} {L : List (Int × (Int × Int))} {m : List (Int × Value)} {w : World} {ii : Int} (i : Nat) (h : HRep 99 101 3 F w bh (.func (.func fid) #[] caps) g (L.map en) lv bm m)
    (hi' : ii = (i : Int)) (hi : i < L.length) (hok : ∀ p ∈ L, okx p.2) {c : Nat} (hst : St c w) (hSF : ∀ k, Sb k → ¬ F k ∧ k < w.heap.size) :
    Calls Try.prog 49 #[.pointer (some ⟨bh, 0, none⟩), .int .i64 ii] w fun e w' => e = .returned (.tuple #[]) ∧ (∃ m', HRep 99 101 3 F w' bh (.func (.func fid) #[] caps) g ((upL key L i).map en) lv bm m') ∧
      (∃ c', c ≤ c' ∧ c' ≤ c + 2 * Nat.log2 (i + 1) ∧ St c' w') ∧ Fr (fun k => F k ∨ Sb k) w w' := by
  subst hi'
  obtain ⟨gg, cap, _, hcap, hcm⟩ := h.some hi
  unfold maxLen at hcm
  have HB := Lib.hid B
  have H := Lib.hid h
  have HOK := Lib.hid hok
  have HST := Lib.hid hst
  have HSF := Lib.hid hSF
  clear B h hok hst hSF
  go_enter Try.func49, Try.ntmps49
  go_wp2_with (fail)
  go_loopw [1] (fun s wr => UpRel key St F Sb w bh bm (.func (.func fid) #[] caps) lv g L i c s wr) (fun s _ => (intOf s).toNat)
  case atStart => exact ⟨i, L, m, c, rfl, Nat.le_refl _, rfl, List.Perm.refl _, H.out, Nat.le_refl _, Nat.le_refl _, HST.out, Fr.refl _ _⟩
  case round =>
    obtain ⟨k, L', m', c', rfl, hk, hup, hp, hr, hc, hcb, hs, hf⟩ := hrel
    have HUP := Lib.hid hup
    have HP := Lib.hid hp
    have HR := Lib.hid hr
    have HS := Lib.hid hs
    have HF := Lib.hid hf
    have hl : k < L'.length := by rw [hp.length_eq]; omega
    have HOK' : Hid (∀ p ∈ L', okx p.2) := Lib.hid (fun p hp' => HOK.out p (hp.mem_iff.1 hp'))
    have HSF' : Hid (∀ k, Sb k → ¬ F k ∧ k < wr.heap.size) := Lib.hid (fun k hk => ⟨(HSF.out k hk).1, Nat.lt_of_lt_of_le (HSF.out k hk).2 hf.size⟩)
    clear hup hp hr hs hf
    by_cases hk0 : 0 < k
    · obtain ⟨p, hpe⟩ : ∃ p, (k - 1) / 2 = p := ⟨_, rfl⟩
      have hpi : ((k : Int) - 1) / 2 = (p : Int) := by omega
      have hpl : p < L'.length := by omega
      have hlog := log_up hk0
      rw [hpe] at hlog
      obtain ⟨a, ha⟩ := get_some hl
      obtain ⟨b, hb⟩ := get_some hpl
      have HA := Lib.hid ha
      have HBB := Lib.hid hb
      have HE := Lib.hid hpi
      have HPE := Lib.hid hpe
      have HLG := Lib.hid hlog
      have hpk : p < k := by omega
      clear ha hb hpi hlog hpe
      cases hq : aheadB (bk key) a b
      · have hno : upL key L' k = L' := upL_no (fun h => by rw [HPE.out, ahL_eq HA.out HBB.out, hq] at h; cases h.2)
        have HNO := Lib.hid hno
        clear hno
        go_wp2_with (go_at_call 71; refine (ahead_at HB.out k p a b HR.out rfl HE.out HA.out HBB.out HOK'.out HS.out HSF'.out).mono ?_; rintro e w1 ⟨rfl, hc1, hf1⟩; rw [hq]; have HC1 := Lib.hid hc1; have HF1 := Lib.hid hf1; clear hc1 hf1)
        go_end0
        obtain ⟨c1, hc1, hc2, hs1⟩ := HC1.out
        have hlg := HLG.out
        refine ⟨rfl, ⟨m', ?_⟩, ⟨c1, by omega, by omega, hs1⟩, HF.out.trans HF1.out (fun _ _ h => .inr h)⟩
        rw [← HUP.out, HNO.out]
        exact HR.out.fr HF1.out (fun k _ hF hS => (HSF.out k hS).1 hF)
      · have hyes : upL key L' k = upL key (swL L' k p) p := by
          have := upL_yes (key := key) (L := L') hk0 (by rw [HPE.out, ahL_eq HA.out HBB.out, hq])
          rwa [HPE.out] at this
        have HYES := Lib.hid hyes
        clear hyes
        go_wp2_with (first
          | (go_at_call 71; refine (ahead_at HB.out k p a b HR.out rfl HE.out HA.out HBB.out HOK'.out HS.out HSF'.out).mono ?_; rintro e w1 ⟨rfl, hc1, hf1⟩; rw [hq]; have HC1 := Lib.hid hc1; have HF1 := Lib.hid hf1; have HR1 := Lib.hid (HR.out.fr hf1 (fun k _ hF hS => (HSF.out k hS).1 hF)); clear hc1 hf1)
          | (go_at_call 72; refine (swap_at k p HR1.out rfl HE.out hl hpl (by omega)).mono ?_; rintro e w2 ⟨rfl, ⟨m2, hr2⟩, hf2⟩; have HR2 := Lib.hid hr2; have HF2 := Lib.hid hf2; clear hr2 hf2))
        obtain ⟨c1, hc1, hc2, hs1⟩ := HC1.out
        have hlg := HLG.out
        have hpi := HE.out
        go_roundw
        case rel =>
          refine ⟨p, swL L' k p, m2, c1, by rw [hpi], by omega, by rw [← HYES.out]; exact HUP.out, (swL_perm _ _ _).trans HP.out, HR2.out, by omega, by omega, ?_, (HF.out.trans HF1.out (fun _ _ h => .inr h)).trans HF2.out (fun _ _ h => .inl h)⟩
          exact HB.out.stab c1 w1 w2 F hs1 HF2.out (fun k hk => (HSF.out k hk).1)
        case measure => simp [intOf]; omega
    · obtain rfl : k = 0 := by omega
      have hno : upL key L' 0 = L' := upL_no (fun h => absurd h.1 (by omega))
      have HNO := Lib.hid hno
      clear hno
      go_wp2_with (fail)
      go_end0
      refine ⟨rfl, ⟨m', ?_⟩, ⟨c', hc, by omega, HS.out⟩, HF.out⟩
      rw [← HUP.out, HNO.out]
      exact HR.out

end Go.Proofs.Ytikimfdijkejpaa.HT
