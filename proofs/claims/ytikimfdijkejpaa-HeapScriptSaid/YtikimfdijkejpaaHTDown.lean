/- The heap at one type of things: down, settle. -/
import Derived.Test.YtikimfdijkejpaaHTUp
namespace Go.Proofs.Ytikimfdijkejpaa.HT
open Go.RowKit Go.Sb

def DownRel (key : Int × Int → Int) (St : Nat → World → Prop) (F Sb : Nat → Prop) (w : World) (bh bm : Nat) (fv lv : Value) (g : Int) (L : List (Int × (Int × Int))) (i c : Nat) (s : Value) (wr : World) : Prop :=
  ∃ (k : Nat) (L' : List (Int × (Int × Int))) (m' : List (Int × Value)) (c' : Nat), s = .int .i64 (k : Int) ∧ k < L.length ∧ downL key L' k = downL key L i ∧ L'.Perm L ∧ HRep 99 101 3 F wr bh fv g (L'.map en) lv bm m' ∧
    c ≤ c' ∧ c' + 4 * Nat.log2 (L.length / (k + 1)) ≤ c + 4 * Nat.log2 (L.length / (i + 1)) ∧ St c' wr ∧ Fr (fun k => F k ∨ Sb k) w wr

set_option maxRecDepth 100000 in
set_option maxHeartbeats 2000000 in
theorem down_any {fid : Nat} {caps : Array Value} {okx : Int × Int → Prop} {key : Int × Int → Int} {St : Nat → World → Prop} {Sb : Nat → Prop} (B : BSpec Try.prog fid caps thV okx (bk key) St Sb)
    {F : Nat → Prop} {bh bm : Nat} {lv : Value} {g : Int} {L : List (Int × (Int × Int))} {m : List (Int × Value)} {w : World} {ii : Int} (i : Nat) (h : HRep 99 101 3 F w bh (.func (.func fid) #[] caps) g (L.map en) lv bm m)
    (hi' : ii = (i : Int)) (hi : i < L.length) (hL : L.length ≤ 8796093022208) (hok : ∀ p ∈ L, okx p.2) {c : Nat} (hst : St c w) (hSF : ∀ k, Sb k → ¬ F k ∧ k < w.heap.size) :
    Calls Try.prog 73 #[.pointer (some ⟨bh, 0, none⟩), .int .i64 ii] w fun e w' => e = .returned (.bool (decide (i < (downL key L i).2))) ∧ (∃ m', HRep 99 101 3 F w' bh (.func (.func fid) #[] caps) g ((downL key L i).1.map en) lv bm m') ∧
      (∃ c', c ≤ c' ∧ c' ≤ c + 4 * Nat.log2 (L.length / (i + 1)) ∧ St c' w') ∧ Fr (fun k => F k ∨ Sb k) w w' := by
  subst hi'
  obtain ⟨gg, cap, rfl, hcap, hcm⟩ := h.some hi
  unfold maxLen at hcm
  have HB := Lib.hid B
  have H := Lib.hid h
  have HOK := Lib.hid hok
  have HST := Lib.hid hst
  have HSF := Lib.hid hSF
  clear B h hok hst hSF
  go_enter Try.func73, Try.ntmps73
  go_wp2_with (fail)
  go_loopw [1, 6] (fun s _ wr => DownRel key St F Sb w bh bm (.func (.func fid) #[] caps) (.slice (some ⟨gg, 0, none⟩) L.length cap) g L i c s wr) (fun s _ _ => L.length - (intOf s).toNat)
  case atStart => exact ⟨i, L, m, c, rfl, hi, rfl, List.Perm.refl _, H.out, Nat.le_refl _, Nat.le_refl _, HST.out, Fr.refl _ _⟩
  case round =>
    obtain ⟨k, L', m', c', rfl, hk, hdn, hp, hr, hc, hcb, hs, hf⟩ := hrel
    have hlen := hp.length_eq
    have c1 : wr.cell? ⟨bh, 1, none⟩ = some (.slice (some ⟨gg, 0, none⟩) L.length cap) := cell_is hr.head 1 rfl
    have HDN := Lib.hid hdn
    have HP := Lib.hid hp
    have HR := Lib.hid hr
    have HS := Lib.hid hs
    have HF := Lib.hid hf
    have HLEN := Lib.hid hlen
    have hl : k < L'.length := by omega
    have HKL := Lib.hid hl
    have HOK' : Hid (∀ p ∈ L', okx p.2) := Lib.hid (fun p hp' => HOK.out p (hp.mem_iff.1 hp'))
    have HSF' : Hid (∀ k, Sb k → ¬ F k ∧ k < wr.heap.size) := Lib.hid (fun k hk => ⟨(HSF.out k hk).1, Nat.lt_of_lt_of_le (HSF.out k hk).2 hf.size⟩)
    clear hdn hp hr hs hf hlen hl
    by_cases hch : 2 * k + 1 < L.length
    · obtain ⟨x, hx⟩ := get_some (L := L') (i := 2 * k + 1) (by rw [HLEN.out]; exact hch)
      obtain ⟨z, hz⟩ := get_some HKL.out
      have HX := Lib.hid hx
      have HZ := Lib.hid hz
      clear hx hz
      -- which child, and how it came to be chosen
      by_cases hc2 : 2 * k + 2 < L.length
      · obtain ⟨y, hy⟩ := get_some (L := L') (i := 2 * k + 2) (by rw [HLEN.out]; exact hc2)
        have HY := Lib.hid hy
        clear hy
        cases hq : aheadB (bk key) y x
        · have hcl : childL key L' k = 2 * k + 1 := by
            unfold childL
            rw [if_neg]
            rintro ⟨_, h2⟩
            rw [ahL_eq HY.out HX.out, hq] at h2
            cases h2
          have HCL := Lib.hid hcl
          clear hcl
          cases hq2 : aheadB (bk key) x z
          · have hno : downL key L' k = (L', k) := downL_no (fun h => by rw [HCL.out, ahL_eq HX.out HZ.out, hq2] at h; cases h.2)
            have hres := HDN.out
            rw [hno] at hres
            have HRES := Lib.hid hres
            clear hno hres
            have hlog := log_down (n := L.length) (i := k) (c := 2 * k + 1) hch (by omega)
            have HLG := Lib.hid hlog
            clear hlog
            go_wp2_with (first
              | (go_at_call 71; have _t := tok1; refine (ahead_at HB.out (2 * k + 1) k x z HR1.out (by omega) rfl HX.out HZ.out HOK'.out HS1.out (fun k hk => ⟨(HSF.out k hk).1, Nat.lt_of_lt_of_le (HSF'.out k hk).2 HF1.out.size⟩)).mono ?_; rintro e w2 ⟨rfl, ⟨n2, hc21, hc22, hs2⟩, hf2⟩; rw [hq2]; have HS2 := Lib.hid hs2; have HF2 := Lib.hid hf2; have HR2 := Lib.hid (HR1.out.fr hf2 (fun k _ hF hS => (HSF.out k hS).1 hF)); clear hs2 hf2)
              | (go_at_call 71; refine (ahead_at HB.out (2 * k + 2) (2 * k + 1) y x HR.out (by omega) (by omega) HY.out HX.out HOK'.out HS.out HSF'.out).mono ?_; rintro e w1 ⟨rfl, ⟨n1, hc11, hc12, hs1⟩, hf1⟩; rw [hq]; have HS1 := Lib.hid hs1; have HF1 := Lib.hid hf1; have HR1 := Lib.hid (HR.out.fr hf1 (fun k _ hF hS => (HSF.out k hS).1 hF)); have d1 : w1.cell? ⟨bh, 1, none⟩ = some (.slice (some ⟨gg, 0, none⟩) L.length cap) := cell_is HR1.out.head 1 rfl; have tok1 : True := trivial; clear hs1 hf1))
            go_ret
            rw [← HRES.out]
            have hlg := HLG.out
            exact ⟨rfl, ⟨m', HR2.out⟩, ⟨n2, by omega, by omega, HS2.out⟩, (HF.out.trans HF1.out (fun _ _ h => .inr h)).trans HF2.out (fun _ _ h => .inr h)⟩
          · have hyes : downL key L' k = downL key (swL L' k (2 * k + 1)) (2 * k + 1) := by
              have := downL_yes (key := key) (L := L') (i := k) (by rw [HLEN.out]; exact hch) (by rw [HCL.out, ahL_eq HX.out HZ.out, hq2])
              rwa [HCL.out] at this
            have HYES := Lib.hid hyes
            clear hyes
            have hlog := log_down (n := L.length) (i := k) (c := 2 * k + 1) hch (by omega)
            have HLG := Lib.hid hlog
            clear hlog
            go_wp2_with (first
              | (go_at_call 71; have _t := tok1; refine (ahead_at HB.out (2 * k + 1) k x z HR1.out (by omega) rfl HX.out HZ.out HOK'.out HS1.out (fun k hk => ⟨(HSF.out k hk).1, Nat.lt_of_lt_of_le (HSF'.out k hk).2 HF1.out.size⟩)).mono ?_; rintro e w2 ⟨rfl, ⟨n2, hc21, hc22, hs2⟩, hf2⟩; rw [hq2]; have HS2 := Lib.hid hs2; have HF2 := Lib.hid hf2; have HR2 := Lib.hid (HR1.out.fr hf2 (fun k _ hF hS => (HSF.out k hS).1 hF)); clear hs2 hf2)
              | (go_at_call 71; refine (ahead_at HB.out (2 * k + 2) (2 * k + 1) y x HR.out (by omega) (by omega) HY.out HX.out HOK'.out HS.out HSF'.out).mono ?_; rintro e w1 ⟨rfl, ⟨n1, hc11, hc12, hs1⟩, hf1⟩; rw [hq]; have HS1 := Lib.hid hs1; have HF1 := Lib.hid hf1; have HR1 := Lib.hid (HR.out.fr hf1 (fun k _ hF hS => (HSF.out k hS).1 hF)); have d1 : w1.cell? ⟨bh, 1, none⟩ = some (.slice (some ⟨gg, 0, none⟩) L.length cap) := cell_is HR1.out.head 1 rfl; have tok1 : True := trivial; clear hs1 hf1)
              | (go_at_call 72; refine (swap_at k (2 * k + 1) HR2.out rfl (by omega) HKL.out (by rw [HLEN.out]; omega) (by omega)).mono ?_; rintro e w3 ⟨rfl, ⟨m3, hr3⟩, hf3⟩; have HR3 := Lib.hid hr3; have HF3 := Lib.hid hf3; clear hr3 hf3))
            have hlg := HLG.out
            go_roundw
            case rel =>
              refine ⟨2 * k + 1, swL L' k (2 * k + 1), m3, n2, by go_num, by omega, by rw [← HYES.out]; exact HDN.out, (swL_perm _ _ _).trans HP.out, HR3.out, by omega, by omega, ?_, ((HF.out.trans HF1.out (fun _ _ h => .inr h)).trans HF2.out (fun _ _ h => .inr h)).trans HF3.out (fun _ _ h => .inl h)⟩
              exact HB.out.stab n2 w2 w3 F HS2.out HF3.out (fun k hk => (HSF.out k hk).1)
            case measure => simp [intOf]; omega
        · have hcl : childL key L' k = 2 * k + 2 := by
            unfold childL
            rw [if_pos]
            exact ⟨by rw [HLEN.out]; exact hc2, by rw [ahL_eq HY.out HX.out, hq]⟩
          have HCL := Lib.hid hcl
          clear hcl
          cases hq2 : aheadB (bk key) y z
          · have hno : downL key L' k = (L', k) := downL_no (fun h => by rw [HCL.out, ahL_eq HY.out HZ.out, hq2] at h; cases h.2)
            have hres := HDN.out
            rw [hno] at hres
            have HRES := Lib.hid hres
            clear hno hres
            have hlog := log_down (n := L.length) (i := k) (c := 2 * k + 2) hch (by omega)
            have HLG := Lib.hid hlog
            clear hlog
            go_wp2_with (first
              | (go_at_call 71; have _t := tok1; refine (ahead_at HB.out (2 * k + 2) k y z HR1.out (by omega) rfl HY.out HZ.out HOK'.out HS1.out (fun k hk => ⟨(HSF.out k hk).1, Nat.lt_of_lt_of_le (HSF'.out k hk).2 HF1.out.size⟩)).mono ?_; rintro e w2 ⟨rfl, ⟨n2, hc21, hc22, hs2⟩, hf2⟩; rw [hq2]; have HS2 := Lib.hid hs2; have HF2 := Lib.hid hf2; have HR2 := Lib.hid (HR1.out.fr hf2 (fun k _ hF hS => (HSF.out k hS).1 hF)); clear hs2 hf2)
              | (go_at_call 71; refine (ahead_at HB.out (2 * k + 2) (2 * k + 1) y x HR.out (by omega) (by omega) HY.out HX.out HOK'.out HS.out HSF'.out).mono ?_; rintro e w1 ⟨rfl, ⟨n1, hc11, hc12, hs1⟩, hf1⟩; rw [hq]; have HS1 := Lib.hid hs1; have HF1 := Lib.hid hf1; have HR1 := Lib.hid (HR.out.fr hf1 (fun k _ hF hS => (HSF.out k hS).1 hF)); have d1 : w1.cell? ⟨bh, 1, none⟩ = some (.slice (some ⟨gg, 0, none⟩) L.length cap) := cell_is HR1.out.head 1 rfl; have tok1 : True := trivial; clear hs1 hf1))
            go_ret
            rw [← HRES.out]
            have hlg := HLG.out
            exact ⟨rfl, ⟨m', HR2.out⟩, ⟨n2, by omega, by omega, HS2.out⟩, (HF.out.trans HF1.out (fun _ _ h => .inr h)).trans HF2.out (fun _ _ h => .inr h)⟩
          · have hyes : downL key L' k = downL key (swL L' k (2 * k + 2)) (2 * k + 2) := by
              have := downL_yes (key := key) (L := L') (i := k) (by rw [HLEN.out]; exact hch) (by rw [HCL.out, ahL_eq HY.out HZ.out, hq2])
              rwa [HCL.out] at this
            have HYES := Lib.hid hyes
            clear hyes
            have hlog := log_down (n := L.length) (i := k) (c := 2 * k + 2) hch (by omega)
            have HLG := Lib.hid hlog
            clear hlog
            go_wp2_with (first
              | (go_at_call 71; have _t := tok1; refine (ahead_at HB.out (2 * k + 2) k y z HR1.out (by omega) rfl HY.out HZ.out HOK'.out HS1.out (fun k hk => ⟨(HSF.out k hk).1, Nat.lt_of_lt_of_le (HSF'.out k hk).2 HF1.out.size⟩)).mono ?_; rintro e w2 ⟨rfl, ⟨n2, hc21, hc22, hs2⟩, hf2⟩; rw [hq2]; have HS2 := Lib.hid hs2; have HF2 := Lib.hid hf2; have HR2 := Lib.hid (HR1.out.fr hf2 (fun k _ hF hS => (HSF.out k hS).1 hF)); clear hs2 hf2)
              | (go_at_call 71; refine (ahead_at HB.out (2 * k + 2) (2 * k + 1) y x HR.out (by omega) (by omega) HY.out HX.out HOK'.out HS.out HSF'.out).mono ?_; rintro e w1 ⟨rfl, ⟨n1, hc11, hc12, hs1⟩, hf1⟩; rw [hq]; have HS1 := Lib.hid hs1; have HF1 := Lib.hid hf1; have HR1 := Lib.hid (HR.out.fr hf1 (fun k _ hF hS => (HSF.out k hS).1 hF)); have d1 : w1.cell? ⟨bh, 1, none⟩ = some (.slice (some ⟨gg, 0, none⟩) L.length cap) := cell_is HR1.out.head 1 rfl; have tok1 : True := trivial; clear hs1 hf1)
              | (go_at_call 72; refine (swap_at k (2 * k + 2) HR2.out rfl (by omega) HKL.out (by rw [HLEN.out]; omega) (by omega)).mono ?_; rintro e w3 ⟨rfl, ⟨m3, hr3⟩, hf3⟩; have HR3 := Lib.hid hr3; have HF3 := Lib.hid hf3; clear hr3 hf3))
            have hlg := HLG.out
            go_roundw
            case rel =>
              refine ⟨2 * k + 2, swL L' k (2 * k + 2), m3, n2, by go_num, by omega, by rw [← HYES.out]; exact HDN.out, (swL_perm _ _ _).trans HP.out, HR3.out, by omega, by omega, ?_, ((HF.out.trans HF1.out (fun _ _ h => .inr h)).trans HF2.out (fun _ _ h => .inr h)).trans HF3.out (fun _ _ h => .inl h)⟩
              exact HB.out.stab n2 w2 w3 F HS2.out HF3.out (fun k hk => (HSF.out k hk).1)
            case measure => simp [intOf]; omega
      · have hcl : childL key L' k = 2 * k + 1 := by
          unfold childL
          rw [if_neg]
          rintro ⟨h2, _⟩
          rw [HLEN.out] at h2
          exact hc2 h2
        have HCL := Lib.hid hcl
        clear hcl
        cases hq2 : aheadB (bk key) x z
        · have hno : downL key L' k = (L', k) := downL_no (fun h => by rw [HCL.out, ahL_eq HX.out HZ.out, hq2] at h; cases h.2)
          have hres := HDN.out
          rw [hno] at hres
          have HRES := Lib.hid hres
          clear hno hres
          have hlog := log_down (n := L.length) (i := k) (c := 2 * k + 1) hch (by omega)
          have HLG := Lib.hid hlog
          clear hlog
          go_wp2_with (first
            | (go_at_call 71; refine (ahead_at HB.out (2 * k + 1) k x z HR.out (by omega) rfl HX.out HZ.out HOK'.out HS.out HSF'.out).mono ?_; rintro e w2 ⟨rfl, ⟨n2, hc21, hc22, hs2⟩, hf2⟩; rw [hq2]; have HS2 := Lib.hid hs2; have HF2 := Lib.hid hf2; have HR2 := Lib.hid (HR.out.fr hf2 (fun k _ hF hS => (HSF.out k hS).1 hF)); clear hs2 hf2))
          go_ret
          rw [← HRES.out]
          have hlg := HLG.out
          exact ⟨rfl, ⟨m', HR2.out⟩, ⟨n2, by omega, by omega, HS2.out⟩, HF.out.trans HF2.out (fun _ _ h => .inr h)⟩
        · have hyes : downL key L' k = downL key (swL L' k (2 * k + 1)) (2 * k + 1) := by
            have := downL_yes (key := key) (L := L') (i := k) (by rw [HLEN.out]; exact hch) (by rw [HCL.out, ahL_eq HX.out HZ.out, hq2])
            rwa [HCL.out] at this
          have HYES := Lib.hid hyes
          clear hyes
          have hlog := log_down (n := L.length) (i := k) (c := 2 * k + 1) hch (by omega)
          have HLG := Lib.hid hlog
          clear hlog
          go_wp2_with (first
            | (go_at_call 71; refine (ahead_at HB.out (2 * k + 1) k x z HR.out (by omega) rfl HX.out HZ.out HOK'.out HS.out HSF'.out).mono ?_; rintro e w2 ⟨rfl, ⟨n2, hc21, hc22, hs2⟩, hf2⟩; rw [hq2]; have HS2 := Lib.hid hs2; have HF2 := Lib.hid hf2; have HR2 := Lib.hid (HR.out.fr hf2 (fun k _ hF hS => (HSF.out k hS).1 hF)); clear hs2 hf2)
            | (go_at_call 72; refine (swap_at k (2 * k + 1) HR2.out rfl (by omega) HKL.out (by rw [HLEN.out]; omega) (by omega)).mono ?_; rintro e w3 ⟨rfl, ⟨m3, hr3⟩, hf3⟩; have HR3 := Lib.hid hr3; have HF3 := Lib.hid hf3; clear hr3 hf3))
          have hlg := HLG.out
          go_roundw
          case rel =>
            refine ⟨2 * k + 1, swL L' k (2 * k + 1), m3, n2, by go_num, by omega, by rw [← HYES.out]; exact HDN.out, (swL_perm _ _ _).trans HP.out, HR3.out, by omega, by omega, ?_, (HF.out.trans HF2.out (fun _ _ h => .inr h)).trans HF3.out (fun _ _ h => .inl h)⟩
            exact HB.out.stab n2 w2 w3 F HS2.out HF3.out (fun k hk => (HSF.out k hk).1)
          case measure => simp [intOf]; omega
    · have hno : downL key L' k = (L', k) := downL_no (fun h => by rw [HLEN.out] at h; exact hch h.1)
      have hres := HDN.out
      rw [hno] at hres
      have HRES := Lib.hid hres
      clear hno hres
      go_wp2_with (fail)
      go_ret
      rw [← HRES.out]
      exact ⟨rfl, ⟨m', HR.out⟩, ⟨c', hc, by omega, HS.out⟩, HF.out⟩

set_option maxRecDepth 100000 in
set_option maxHeartbeats 2000000 in
theorem settle_any {fid : Nat} {caps : Array Value} {okx : Int × Int → Prop} {key : Int × Int → Int} {St : Nat → World → Prop} {Sb : Nat → Prop} (B : BSpec Try.prog fid caps thV okx (bk key) St Sb)
    {F : Nat → Prop} {bh bm : Nat} {lv : Value} {g : Int} {L : List (Int × (Int × Int))} {m : List (Int × Value)} {w : World} {ii : Int} (i : Nat) (h : HRep 99 101 3 F w bh (.func (.func fid) #[] caps) g (L.map en) lv bm m)
    (hi' : ii = (i : Int)) (hi : i < L.length) (hL : L.length ≤ 8796093022208) (hok : ∀ p ∈ L, okx p.2) {c : Nat} (hst : St c w) (hSF : ∀ k, Sb k → ¬ F k ∧ k < w.heap.size) :
    Calls Try.prog 51 #[.pointer (some ⟨bh, 0, none⟩), .int .i64 ii] w fun e w' => e = .returned (.tuple #[]) ∧ (∃ m', HRep 99 101 3 F w' bh (.func (.func fid) #[] caps) g ((settleL key L i).map en) lv bm m') ∧
      (∃ c', c ≤ c' ∧ c' ≤ c + 6 * Nat.log2 L.length ∧ St c' w') ∧ Fr (fun k => F k ∨ Sb k) w w' := by
  subst hi'
  have hlg1 : Nat.log2 (L.length / (i + 1)) ≤ Nat.log2 L.length := log_mono (Nat.div_le_self _ _)
  have hlg2 : Nat.log2 (i + 1) ≤ Nat.log2 L.length := log_mono (by omega)
  have HB := Lib.hid B
  have HOK := Lib.hid hok
  have HSF := Lib.hid hSF
  have HD := Lib.hid (down_any B i h rfl hi hL hok hst hSF)
  have HL1 := Lib.hid hlg1
  have HL2 := Lib.hid hlg2
  clear B h hok hst hSF hlg1 hlg2
  by_cases hm : i < (downL key L i).2
  · have hs : settleL key L i = (downL key L i).1 := if_pos hm
    have HS := Lib.hid hs
    have HM := Lib.hid (decide_eq_true hm)
    clear hs hm
    go_enter Try.func51, Try.ntmps51
    go_wp2_with (go_at_call 73; refine HD.out.mono ?_; rintro e w1 ⟨rfl, hr, hc, hf⟩; rw [HM.out]; have HR := Lib.hid hr; have HC := Lib.hid hc; have HF := Lib.hid hf; clear hr hc hf)
    go_end0
    obtain ⟨c1, h1, h2, h3⟩ := HC.out
    have := HL1.out
    rw [HS.out]
    exact ⟨rfl, HR.out, ⟨c1, h1, by omega, h3⟩, HF.out⟩
  · have hs : settleL key L i = upL key (downL key L i).1 i := if_neg hm
    have HS := Lib.hid hs
    have HM := Lib.hid (decide_eq_false hm)
    clear hs hm
    go_enter Try.func51, Try.ntmps51
    go_wp2_with (first
      | (go_at_call 73; refine HD.out.mono ?_; rintro e w1 ⟨rfl, hr, hc, hf⟩; rw [HM.out]; obtain ⟨m1, hr⟩ := hr; obtain ⟨c1, h1, h2, h3⟩ := hc; have HR := Lib.hid hr; have HC := Lib.hid h3; have HF := Lib.hid hf; clear hr h3 hf)
      | (go_at_call 49; refine (up_any HB.out i HR.out rfl (by rw [downL_length]; exact hi) (fun p hp => HOK.out p ((downL_perm L i).mem_iff.1 hp)) HC.out (fun k hk => ⟨(HSF.out k hk).1, Nat.lt_of_lt_of_le (HSF.out k hk).2 HF.out.size⟩)).mono ?_; rintro e w2 ⟨rfl, hr2, hc2, hf2⟩; have HR2 := Lib.hid hr2; have HC2 := Lib.hid hc2; have HF2 := Lib.hid hf2; clear hr2 hc2 hf2))
    go_end0
    obtain ⟨c2, h4, h5, h6⟩ := HC2.out
    have := HL1.out
    have := HL2.out
    rw [HS.out]
    exact ⟨rfl, HR2.out, ⟨c2, by omega, by omega, h6⟩, HF.out.trans HF2.out (fun _ _ h => h)⟩

end Go.Proofs.Ytikimfdijkejpaa.HT
