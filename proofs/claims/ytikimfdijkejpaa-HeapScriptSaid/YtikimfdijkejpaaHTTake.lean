/- The heap at one type of things: take. -/
import Derived.Test.YtikimfdijkejpaaHTTake0
import Derived.Test.YtikimfdijkejpaaHTDown
namespace Go.Proofs.Ytikimfdijkejpaa.HT
open Go.RowKit Go.Sb

set_option maxRecDepth 100000 in
set_option maxHeartbeats 4000000 in
theorem take_any {fid : Nat} {caps : Array Value} {okx : Int × Int → Prop} {key : Int × Int → Int} {St : Nat → World → Prop} {Sb : Nat → Prop} (B : BSpec Try.prog fid caps thV okx (bk key) St Sb)
    {F : Nat → Prop} {bh bm : Nat} {lv : Value} {g : Int} {L : List (Int × (Int × Int))} {m : List (Int × Value)} {w : World} {ii : Int} (i : Nat) (h : HRep 99 101 3 F w bh (.func (.func fid) #[] caps) g (L.map en) lv bm m)
    (hi' : ii = (i : Int)) (hi : i < L.length) (hL : L.length ≤ 8796093022208) (hok : ∀ p ∈ L, okx p.2) {c : Nat} (hst : St c w) (hSF : ∀ k, Sb k → ¬ F k ∧ k < w.heap.size) :
    Calls Try.prog 50 #[.pointer (some ⟨bh, 0, none⟩), .int .i64 ii] w fun e w' => e = .returned (.tuple #[]) ∧ (∃ lv' m', HRep 99 101 3 F w' bh (.func (.func fid) #[] caps) g ((takeL key L i).map en) lv' bm m') ∧
      (∃ c', c ≤ c' ∧ c' ≤ c + 6 * Nat.log2 L.length ∧ St c' w') ∧ Fr (fun k => F k ∨ Sb k) w w' := by
  subst hi'
  obtain ⟨gg, cap, rfl, hcap, hcm⟩ := h.some hi
  have hown : Own 101 3 F w (.slice (some ⟨gg, 0, none⟩) L.length cap) L.length (allc (L.map en)) := by simpa using h.list
  obtain ⟨a, ha⟩ := get_some hi
  obtain ⟨z, hz⟩ := get_some (show L.length - 1 < L.length by omega)
  have hma : (a.1, Value.int .i64 (i : Int)) ∈ m := h.ok.hit i (en a) (by rw [List.getElem?_map, ha]; rfl)
  obtain ⟨m1, m2, hms, hm1, _⟩ := split_at h.ok.keys hma
  have hgb : gg ≠ bh := fun e => own_neT h.head (by decide) hown (by rw [← e]; rfl)
  have hgm : gg ≠ bm := fun e => own_neM h.map hown (by rw [← e]; rfl)
  have hbm : bm ≠ bh := fun e => h.map.ne h.head e.symm
  have hFg : F gg := (hown.block gg rfl).1
  unfold maxLen at hcm
  have c1 : w.cell? ⟨bh, 1, none⟩ = some (.slice (some ⟨gg, 0, none⟩) L.length cap) := cell_is h.head 1 rfl
  have c2 : w.cell? ⟨bh, 2, none⟩ = some (.map (some bm)) := cell_is h.head 2 rfl
  have i0 := (en_cells hown ha).1
  have HM := Lib.hid (hms ▸ h.map)
  have HM1 := Lib.hid hm1
  have HMS := Lib.hid hms
  have HA := Lib.hid ha
  have HZ := Lib.hid hz
  have HOW := Lib.hid hown
  have HN := Lib.hid (And.intro hgb (And.intro hgm (And.intro hbm hFg)))
  have HB := Lib.hid B
  have H := Lib.hid h
  have HOK := Lib.hid hok
  have HST := Lib.hid hst
  have HSF := Lib.hid hSF
  clear B h hok hst hSF hown ha hz hma hms hm1 hgb hgm hbm hFg
  have hgl : gg < w.heap.size := World.block_lt_of_cell? w _ i0
  by_cases hil : i + 1 < L.length
  · have hid : decide ((i : Int) < (L.length : Int) - 1) = true := by simp; omega
    go_enter Try.func50, Try.ntmps50
    go_wp2_with (fail)
    go_still_tail 12, (by kernel_rfl)
    change wpList _ _ _ _ _ w.drew
    go_wp2_with (at_delete; refine wpList_delete_old _ rfl _ _ 82 3 rfl 3 3 Try.underlying82 Try.underlying3 bm m1 m2 a.1 (.int .i64 (i : Int)) rfl rfl HM.out.drew HM1.out ?_; intro o1 ho1; have hf1 : Fr (fun k => k = bm) w (w.drew.putObj bm o1) := ((Fr.refl (fun k => k = bm) w).drew).putObj (.inl rfl) _; have hmm : HasMap (w.drew.putObj bm o1) bm (m1 ++ m2) := HasMap.put H.out.map.lt ho1; have HF1 := Lib.hid hf1; have HM2 := Lib.hid hmm; clear hf1 hmm ho1 c1 c2 i0; generalize w.drew.putObj bm o1 = w1 at *; have hh1 := HF1.out.get H.out.head (fun e => HN.out.2.2.1 e.symm); have HH1 := Lib.hid hh1; have c1 : w1.cell? ⟨bh, 1, none⟩ = some (.slice (some ⟨gg, 0, none⟩) L.length cap) := cell_is hh1 1 rfl; have HOW1 := Lib.hid (HOW.out.of (w' := w1) (fun k hk hb => HF1.out.block k hk (fun e => own_neM H.out.map HOW.out (by rw [hb, e])))); clear hh1)
    have f0 := fun k => HOW1.out.frozen (g := gg) rfl k
    obtain ⟨i0, i1, i2⟩ := en_cells HOW1.out HZ.out
    obtain ⟨k0, k1, k2⟩ := en_cells HOW1.out HA.out
    have g0 := f0 (i * 3)
    have g1 := f0 (i * 3 + 1)
    have g2 := f0 (i * 3 + 2)
    clear f0
    have q0 : (0 : Int) ≤ (L.length : Int) - 1 := by omega
    have q1 : (L.length : Int) - 1 < (L.length : Int) := by omega
    have q3 : (1 : Int) ≤ (L.length : Int) := by omega
    have q4 : 1 ≤ L.length := by omega
    have q5 : 0 < L.length := by omega
    have q2 : ((L.length : Int) - 1).toNat = L.length - 1 := by omega
    go_still_tail 13, (by kernel_rfl)
    change wpList _ _ _ _ _ w1.drew
    go_wp2_with (fail)
    have hs1 : Own 101 3 F (((w1.setCell ⟨gg, i * 3, none⟩ (.int .i64 z.1)).setCell ⟨gg, i * 3 + 1, none⟩ (.int .i64 z.2.1)).setCell ⟨gg, i * 3 + 2, none⟩ (.int .i64 z.2.2)).drew (.slice (some ⟨gg, 0, none⟩) L.length cap) (L.set i z).length (allc ((L.set i z).map en)) := (en_set HOW1.out hi z).drew
    have hf2 : Fr (fun k => k = gg) w1 (((w1.setCell ⟨gg, i * 3, none⟩ (.int .i64 z.1)).setCell ⟨gg, i * 3 + 1, none⟩ (.int .i64 z.2.1)).setCell ⟨gg, i * 3 + 2, none⟩ (.int .i64 z.2.2)).drew := ((((Fr.refl (fun k => k = gg) w1).setCell (p := ⟨gg, i * 3, none⟩) (.inl rfl) _).setCell (p := ⟨gg, i * 3 + 1, none⟩) (.inl rfl) _).setCell (p := ⟨gg, i * 3 + 2, none⟩) (.inl rfl) _).drew
    have HF2 := Lib.hid hf2
    have HOW2 := Lib.hid hs1
    clear hf2 hs1 c1 i0 i1 i2 k0 k1 k2 g0 g1 g2
    generalize (((w1.setCell ⟨gg, i * 3, none⟩ (.int .i64 z.1)).setCell ⟨gg, i * 3 + 1, none⟩ (.int .i64 z.2.1)).setCell ⟨gg, i * 3 + 2, none⟩ (.int .i64 z.2.2)).drew = w2 at *
    have hh2 := HF2.out.get HH1.out (fun e => HN.out.1 e.symm)
    have HH2 := Lib.hid hh2
    have c1 : w2.cell? ⟨bh, 1, none⟩ = some (.slice (some ⟨gg, 0, none⟩) L.length cap) := cell_is hh2 1 rfl
    have c2 : w2.cell? ⟨bh, 2, none⟩ = some (.map (some bm)) := cell_is hh2 2 rfl
    have hzi : (L.set i z)[i]? = some z := List.getElem?_set_self hi
    have i0 := (en_cells HOW2.out hzi).1
    have hm2 : HasMap w2 bm (m1 ++ m2) := HM2.out.of (HF2.out.block bm HM2.out.lt (fun e => HN.out.2.1 e.symm))
    obtain ⟨hk1, _, hk3⟩ := places_less H.out.ok (e := en a) HMS.out ((cutL_perm HA.out hil).map en)
    have hzm := H.out.ok.hit (L.length - 1) (en z) (by rw [List.getElem?_map, HZ.out]; rfl)
    have hzm2 : (z.1, Value.int .i64 ((L.length - 1 : Nat) : Int)) ∈ m1 ++ m2 := hk3 _ hzm (H.out.ok.tickets (i := L.length - 1) (j := i) (a := en z) (b := en a) (by rw [List.getElem?_map, HZ.out]; rfl) (by rw [List.getElem?_map, HA.out]; rfl) (by omega))
    obtain ⟨m3, m4, hms2, hm3, hm4⟩ := split_at hk1 hzm2
    have hput : putM (m1 ++ m2) z.1 (.int .i64 (i : Int)) = m3 ++ (z.1, .int .i64 (i : Int)) :: m4 := by rw [hms2]; exact putM_split hm3 hm4
    have HPUT := Lib.hid hput
    have HM3 := Lib.hid hm3
    rw [hms2] at hm2
    have HMM2 := Lib.hid hm2
    clear hh2 hzi hm2 hk1 hk3 hzm hzm2 hms2 hm3 hm4 hput
    go_still_tail 13, (by kernel_rfl)
    change wpList _ _ _ _ _ w2.drew
    go_wp2_with (first
      | (at_mapUpdate; refine wpList_mapUpdate_old _ rfl _ _ _ 82 rfl 3 3 Try.underlying82 Try.underlying3 bm m3 m4 z.1 (.int .i64 ((L.length - 1 : Nat) : Int)) (.int .i64 (i : Int)) rfl rfl rfl HMM2.out.drew HM3.out ?_; intro o3 ho3; have hf3 : Fr (fun k => k = bm) w2 (w2.drew.putObj bm o3) := ((Fr.refl (fun k => k = bm) w2).drew).putObj (.inl rfl) _; have hm5 : HasMap (w2.drew.putObj bm o3) bm (m3 ++ (z.1, .int .i64 (i : Int)) :: m4) := HasMap.put HMM2.out.lt ho3; rw [← HPUT.out] at hm5; obtain ⟨w3, hw3⟩ : ∃ w3, w2.drew.putObj bm o3 = w3 := ⟨_, rfl⟩; rw [hw3] at hf3 hm5; rw [hw3]; have HF3 := Lib.hid hf3; have HM5 := Lib.hid hm5; clear hf3 hm5 ho3 hw3 c1 c2 i0; have hh3 := HF3.out.get HH2.out (fun e => HN.out.2.2.1 e.symm); have HH3 := Lib.hid hh3; have c1 : w3.cell? ⟨bh, 1, none⟩ = some (.slice (some ⟨gg, 0, none⟩) L.length cap) := cell_is hh3 1 rfl; have z1 := frozen_of hh3 1; have HOW3 := Lib.hid (HOW2.out.of (w' := w3) (fun k hk hb => HF3.out.block k hk (fun e => own_neM HMM2.out HOW2.out (by rw [hb, e])))); obtain ⟨i0, i1, i2⟩ := en_cells HOW3.out ((List.getElem?_set_ne (show i ≠ L.length - 1 by omega)).trans HZ.out); have f0 := fun k => HOW3.out.frozen (g := gg) rfl k; have g0 := f0 ((L.length - 1) * 3); have g1 := f0 ((L.length - 1) * 3 + 1); have g2 := f0 ((L.length - 1) * 3 + 2);  clear f0 hh3; have hwm := wipe_mid HOW3.out (show (L.set i z).length = L.length by simp) q5 HH3.out HM5.out (by rw [take_wipe HZ.out]; exact places_cut H.out.ok hil HA.out HZ.out HMS.out) H.out.fh H.out.fm HN.out.1; rw [take_wipe HZ.out] at hwm; have HRC := Lib.hid hwm.1; have HFC := Lib.hid (((HF1.out.mono (F' := F) (fun k _ e => e ▸ H.out.fm)).trans (HF2.out.mono (F' := F) (fun k _ e => e ▸ HN.out.2.2.2)) (fun _ _ h => h)).trans ((HF3.out.mono (F' := F) (fun k _ e => e ▸ H.out.fm)).trans hwm.2 (fun _ _ h => h)) (fun _ _ h => h)); have HCL := Lib.hid (cutL_length (L := L) (i := i) q5); have HOKC : Hid (∀ p ∈ cutL L i, okx p.2) := Lib.hid (fun p hp => HOK.out p ((cutL_perm HA.out hil).mem_iff.1 (List.mem_cons_of_mem _ hp))); have HSTC := Lib.hid (HB.out.stab c w _ F HST.out HFC.out (fun k hk => (HSF.out k hk).1)); have HSFC : Hid (∀ k, Sb k → ¬ F k ∧ k < _) := Lib.hid (fun k hk => ⟨(HSF.out k hk).1, Nat.lt_of_lt_of_le (HSF.out k hk).2 HFC.out.size⟩); clear hwm)
      | (go_at_call 51; refine (settle_any HB.out i HRC.out rfl (by rw [HCL.out]; omega) (by rw [HCL.out]; omega) HOKC.out HSTC.out HSFC.out).mono ?_; rintro e w6 ⟨rfl, hr6, hc6, hf6⟩; have HR6 := Lib.hid hr6; have HC6 := Lib.hid hc6; have HF6 := Lib.hid hf6; clear hr6 hc6 hf6))
    go_end0
    obtain ⟨m6, hr6⟩ := HR6.out
    obtain ⟨c6, hc1, hc2, hc3⟩ := HC6.out
    have htk : takeL key L i = settleL key (cutL L i) i := if_pos hil
    have hlg : Nat.log2 (cutL L i).length ≤ Nat.log2 L.length := log_mono (by rw [HCL.out]; omega)
    rw [htk]
    exact ⟨rfl, ⟨_, m6, hr6⟩, ⟨c6, hc1, by omega, hc3⟩, (HFC.out.mono (fun _ _ h => .inl h)).trans HF6.out (fun _ _ h => h)⟩
  · have hlast : i = L.length - 1 := by omega
    have hid : decide ((i : Int) < (L.length : Int) - 1) = false := by simp; omega
    have hid2 : ¬ (i : Int) < (L.length : Int) - 1 := by omega
    have HAL : Hid (L[L.length - 1]? = some a) := Lib.hid (hlast ▸ HA.out)
    have htk : takeL key L i = L.take (L.length - 1) := if_neg hil
    have HTK := Lib.hid htk
    clear hlast htk
    have hgb := HN.out.1
    have hgb' : bh ≠ gg := fun e => HN.out.1 e.symm
    have q0 : (0 : Int) ≤ (L.length : Int) - 1 := by omega
    have q1 : (L.length : Int) - 1 < (L.length : Int) := by omega
    have q3 : (1 : Int) ≤ (L.length : Int) := by omega
    have q4 : 1 ≤ L.length := by omega
    have q5 : 0 < L.length := by omega
    have q2 : ((L.length : Int) - 1).toNat = L.length - 1 := by omega
    go_enter Try.func50, Try.ntmps50
    go_wp2_with (fail)
    go_still_tail 12, (by kernel_rfl)
    change wpList _ _ _ _ _ w.drew
    go_wp2_with (at_delete; refine wpList_delete_old _ rfl _ _ 82 3 rfl 3 3 Try.underlying82 Try.underlying3 bm m1 m2 a.1 (.int .i64 (i : Int)) rfl rfl HM.out.drew HM1.out ?_; intro o1 ho1; have hf1 : Fr (fun k => k = bm) w (w.drew.putObj bm o1) := ((Fr.refl (fun k => k = bm) w).drew).putObj (.inl rfl) _; have hmm : HasMap (w.drew.putObj bm o1) bm (m1 ++ m2) := HasMap.put H.out.map.lt ho1; obtain ⟨w1, hw1⟩ : ∃ w1, w.drew.putObj bm o1 = w1 := ⟨_, rfl⟩; rw [hw1] at hf1 hmm; rw [hw1]; have HF1 := Lib.hid hf1; have HM2 := Lib.hid hmm; clear hf1 hmm ho1 hw1 c1 c2 i0; have hh1 := HF1.out.get H.out.head (fun e => HN.out.2.2.1 e.symm); have HH1 := Lib.hid hh1; have c1 : w1.cell? ⟨bh, 1, none⟩ = some (.slice (some ⟨gg, 0, none⟩) L.length cap) := cell_is hh1 1 rfl; have z1 := frozen_of hh1 1; have HOW1 := Lib.hid (HOW.out.of (w' := w1) (fun k hk hb => HF1.out.block k hk (fun e => own_neM H.out.map HOW.out (by rw [hb, e])))); obtain ⟨i0, i1, i2⟩ := en_cells HOW1.out HAL.out; have f0 := fun k => HOW1.out.frozen (g := gg) rfl k; have g0 := f0 ((L.length - 1) * 3); have g1 := f0 ((L.length - 1) * 3 + 1); have g2 := f0 ((L.length - 1) * 3 + 2);  clear f0 hh1)
    have hwm := wipe_mid HOW1.out rfl q5 HH1.out HM2.out (places_last H.out.ok HAL.out HMS.out) H.out.fh H.out.fm HN.out.1
    have hfc := (HF1.out.mono (F' := F) (fun k _ e => e ▸ H.out.fm)).trans hwm.2 (fun _ _ h => h)
    have hstc := HB.out.stab c w _ F HST.out hfc (fun k hk => (HSF.out k hk).1)
    go_end0
    rw [HTK.out]
    exact ⟨rfl, ⟨_, _, hwm.1⟩, ⟨c, Nat.le_refl _, Nat.le_add_right _ _, hstc⟩, hfc.mono (fun _ _ h => .inl h)⟩

end Go.Proofs.Ytikimfdijkejpaa.HT
