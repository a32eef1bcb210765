/- FrameTakes, walked. -/
import Derived.Test.YtgobbgklmjnnlaaFrMakes0
namespace Go.Proofs.Ytgobbgklmjnnlaa
open Go.RowKit Go.Sb

def TkRel (w : World) (h g c : Nat) (ps : List UInt8) (i : Value) (wr : World) : Prop :=
  ∃ (k : Nat) (L : List Ent) (vo vw : Value), i = .int .i64 (k : Int) ∧ k ≤ 3 ∧ L.length = k ∧ MkSt (Far w g) w wr h g c ps 66008 L vo vw

set_option maxRecDepth 100000 in
set_option maxHeartbeats 1000000 in
theorem takes_any (file place : Int) (v2 v3 : Value) (ps os : List UInt8) (w : World) (h2 : RB w v2 ps) (h3 : RB w v3 os) (hx : ps.length ≤ 140737488351232) :
    Calls Try.prog 5 #[.int .i64 file, .int .i64 place, v2, v3] w fun e w' => e = .returned (.bool true) ∧ Fr (fun _ => False) w w' := by
  have H2 := Lib.hid h2
  have H3 := Lib.hid h3
  obtain ⟨a2, c2, rfl, _⟩ := h2
  clear h3
  have hne : ∀ x : Int, (x != x) = false := fun x => by simp
  go_enter Try.func5, Try.ntmps5
  go_wp2_with (fail)
  refine (shown_any w).mono ?_
  rintro e w1 ⟨rfl, hf1⟩
  have HF1 := Lib.hid hf1
  clear hf1
  go_wp2_with (fail)
  refine (lent_any _ ps _ (H2.out.fr (HF1.out.alloc _)) (by omega)).mono ?_
  rintro e w2 ⟨v4, rfl, hv4, hf4, hn4⟩
  rcases hv4.shape with ⟨h, _⟩ | ⟨g, c, rfl, hc1, hc2, hg⟩
  · exact absurd h hn4
  obtain ⟨hst, hlen⟩ := mk_start (M := 66008) HF1.out hf4 hv4
  rw [hlen] at hc1 ⊢
  have HS := Lib.hid hst
  unfold maxLen at hc2
  clear hv4 hf4 hn4 hst hlen
  generalize w1.heap.size = h at *
  go_wp2_with (fail)
  go_loopw [12] (fun i wr => TkRel w h g c ps i wr) (fun i _ => 3 - (intOf i).toNat)
  case atStart => exact ⟨0, [], _, _, rfl, by omega, rfl, HS.out⟩
  case round =>
    obtain ⟨k, L, vo, vw, rfl, hk, hL, hst⟩ := hrel
    clear HS
    by_cases hlt : k < 3
    · have HS := Lib.hid hst
      have HI := Lib.hid hst.inn.rb
      clear hst
      go_wp2_with (fail)
      refine (take_any file place _ ps wr HI.out).mono ?_
      rintro e wa ⟨b1, rfl, hb1, hfa⟩
      have HB1 := Lib.hid hb1
      have HFa := Lib.hid hfa
      have HSa := Lib.hid (HS.out.later hfa)
      clear hb1 hfa
      go_wp2_with (fail)
      refine (taker_any file place _ ps wa (H2.out.fr HSa.out.fr)).mono ?_
      rintro e wb ⟨b2, rfl, hb2, hfb⟩
      have HB2 := Lib.hid hb2
      have HBb := Lib.hid (hv3_of HB1.out hfb)
      have HFb := Lib.hid (none_fr HFa.out hfb)
      have HSb := Lib.hid (HSa.out.later hfb)
      clear hb2 hfb
      have hne1 := hne (errOf file place ps)
      have hne2 := hne (errOf file place os)
      have hne3 := hne (manyOf file place ps)
      have hne4 := hne (manyOf file place os)
      by_cases hk1 : k = 1
      · subst hk1
        go_wp2_with (fail)
        refine (take_any file place _ os wb (H3.out.fr HSb.out.fr)).mono ?_
        rintro e wc ⟨b3, rfl, hb3, hfc⟩
        have HB3 := Lib.hid hb3
        have HFc := Lib.hid (none_fr HFb.out hfc)
        have HSc := Lib.hid (HSb.out.later hfc)
        clear hb3 hfc
        go_wp2_with (fail)
        refine (taker_any file place _ os wc (H3.out.fr HSc.out.fr)).mono ?_
        rintro e wd ⟨b4, rfl, hb4, hfd⟩
        have HB4 := Lib.hid hb4
        have HBd := Lib.hid (OB.mono (G := fun k => wr.heap.size ≤ k) (hv3_of HB3.out hfd) (fun k _ hk => Nat.le_trans HFb.out.size hk))
        have HFd := Lib.hid (none_fr HFc.out hfd)
        have HSd := Lib.hid (HSc.out.later hfd)
        have HSM := Lib.hid (same_any _ _ _ _ wd HBd.out.rb hb4.rb)
        clear hb4 hfd
        rw [decide_eq_true rfl] at HSM
        go_wp2_with (fail)
        refine HSM.out.mono ?_
        rintro e we ⟨rfl, m1, rfl⟩
        go_wp2_with (fail)
        refine (still_any _ _ ps _ (RB.drewN HSd.out.lent.rb m1) (H2.out.fr (HSd.out.fr.drewN m1))).mono ?_
        rintro e we ⟨rfl, m2, rfl⟩
        go_wp2_with (fail)
        refine ((HSd.out.later ((Fr.refl _ _).drewN (m1 + m2))).holds (by omega)).mono ?_
        rintro e we ⟨rfl, m3, rfl⟩
        go_wp2_with (fail)
        refine (HS.out.keep (HFd.out.drewN (m1 + m2 + m3)) (Own.drewN HBd.out _) (Nat.le_trans (restOf_len _ _ _) (by omega)) (by omega) (by omega)).mono ?_
        rintro e wf ⟨vo', vw', d, rfl, hs5⟩
        have HS5 := Lib.hid hs5
        clear hs5
        go_wp2_with (fail)
        go_roundw
        case rel => exact ⟨2, _, _, _, rfl, by omega, by simp [hL], HS5.out⟩
        case measure => simp [intOf]
      · have hk1' : ((k : Int) == 1) = false := by simp only [beq_eq_false_iff_ne, ne_eq]; omega
        have HSM := Lib.hid (same_any _ _ _ _ wb HBb.out.rb HB2.out.rb)
        rw [decide_eq_true rfl] at HSM
        go_wp2_with (fail)
        refine HSM.out.mono ?_
        rintro e we ⟨rfl, m1, rfl⟩
        go_wp2_with (fail)
        refine (still_any _ _ ps _ (RB.drewN HSb.out.lent.rb m1) (H2.out.fr (HSb.out.fr.drewN m1))).mono ?_
        rintro e we ⟨rfl, m2, rfl⟩
        go_wp2_with (fail)
        refine ((HSb.out.later ((Fr.refl _ _).drewN (m1 + m2))).holds (by omega)).mono ?_
        rintro e we ⟨rfl, m3, rfl⟩
        go_wp2_with (fail)
        refine (HS.out.keep (HFb.out.drewN (m1 + m2 + m3)) (Own.drewN HBb.out _) (Nat.le_trans (restOf_len _ _ _) (by omega)) (by omega) (by omega)).mono ?_
        rintro e wf ⟨vo', vw', d, rfl, hs5⟩
        have HS5 := Lib.hid hs5
        clear hs5
        go_wp2_with (fail)
        go_roundw
        case rel => exact ⟨k + 1, _, _, _, rfl, by omega, by simp [hL], HS5.out⟩
        case measure => simp [intOf]; omega
    · have hk3 : k = 3 := by omega
      subst hk3
      have hgw := hst.gw
      have hh := hst.held
      have hlim := hst.lim
      have hv := hst.inn
      have hf := hst.fr
      clear hst
      by_cases hp : 0 < ps.length
      · obtain ⟨p, hp1⟩ : ∃ p, ps.length = p + 1 := ⟨ps.length - 1, by omega⟩
        have hc : wr.cell? ⟨g, p, none⟩ = some (byte (ps[p]'(by omega))) := hv.cell rfl (by rw [List.getElem?_map, List.getElem?_eq_getElem (by omega)]; rfl)
        have hfz := hv.frozen rfl p
        have hx8 := bits_xor8 (ps[p]'(by omega))
        have hr := OverIn.step rfl (show p < ps.length by omega) hh hlim hv hf hgw (ps[p]'(by omega) ^^^ 33)
        generalize ps[p]'(by omega) = x at hc hx8 hr
        rw [hp1] at hr
        have HR := Lib.hid hr
        clear hv hf hh hlim hr
        unfold byte at hc HR
        go_wp2_with (fail)
        have hR : OverIn w h g c (p + 1) L vo vw (.int .i64 ((p : Int) + 1)) (wr.setCell ⟨g, p, none⟩ (.int .u8 ((x.toNat ^^^ 33 : Nat) : Int))) := HR.out
        generalize wr.setCell ⟨g, p, none⟩ (.int .u8 ((x.toNat ^^^ 33 : Nat) : Int)) = wr at hR ⊢
        obtain ⟨k, zs, _, _, hz, hh, hlim, hv, hf⟩ := hR
        have hs1 := hf.size
        have HH := Lib.hid hh
        have HF := Lib.hid hf
        have HL := Lib.hid hlim
        have HZ := Lib.hid hz
        have hgl := (Own.block hv g rfl).2
        have hFar : ∀ k, wr.heap.size ≤ k → Far w g k := fun k hk => ⟨by omega, by omega⟩
        have HI := Lib.hid hv.rb
        clear hh hv hf hlim hz
        refine (take_any file place _ zs wr HI.out).mono ?_
        rintro e wa ⟨b1, rfl, hb1, hfa⟩
        have HB1 := Lib.hid hb1
        have HFa := Lib.hid hfa
        clear hb1 hfa
        go_wp2_with (fail)
        refine (copied_any _ zs wa (HI.out.fr HFa.out) (by have := HZ.out; omega)).mono ?_
        rintro e wb ⟨b2, rfl, hb2, hfb, _⟩
        have HB2 := Lib.hid hb2
        have HBb := Lib.hid (hv3_of HB1.out hfb)
        have HFb := Lib.hid (none_fr HFa.out hfb)
        clear hb2 hfb
        go_wp2_with (fail)
        refine (taker_any file place _ zs wb HB2.out.rb).mono ?_
        rintro e wc ⟨b3, rfl, hb3, hfc⟩
        have HBc := Lib.hid (hv3_of HBb.out hfc)
        have HFc := Lib.hid (none_fr HFb.out hfc)
        have HSM := Lib.hid (same_any _ _ _ _ wc HBc.out.rb hb3.rb)
        have hne3 := hne (errOf file place zs)
        have hne4 := hne (manyOf file place zs)
        clear hb3 hfc
        rw [decide_eq_true rfl] at HSM
        go_wp2_with (fail)
        refine HSM.out.mono ?_
        rintro e we ⟨rfl, m1, rfl⟩
        go_wp2_with (fail)
        refine (held_keep HH.out HL.out (HFc.out.drewN m1) (Own.drewN HBc.out m1) hFar (Nat.le_trans (restOf_len _ _ _) (by omega)) (by omega) (by omega)).mono ?_
        rintro e wf ⟨vo', vw', d, rfl, hh5, hl5, hf5⟩
        have HH5 := Lib.hid hh5
        have HL5 := Lib.hid hl5
        have HF5 := Lib.hid ((HF.out.trans (HFc.out.drewN m1) (fun _ _ h => h)).trans hf5 (fun k hk h => by have := h.1; omega))
        have hs5 := hf5.size
        have hs6 := HFc.out.size
        clear hh5 hl5 hf5
        go_wp2_with (fail)
        refine (spoil_any wf h 66008 vo' vw' _ HH5.out (fun k hk => hFar k (by simp at hs5; omega)) (by omega) HL5.out (by simp; omega)).mono ?_
        rintro e wg ⟨rfl, hf6⟩
        have HF6 := Lib.hid (HF5.out.trans hf6 (fun k hk h => by have := h.1; omega))
        clear hf6
        go_wp2_with (fail)
        go_ret
        exact ⟨rfl, HF6.out⟩

      · have hp0 : ps.length = 0 := by omega
        obtain ⟨zs, hz, hv⟩ : ∃ zs : List UInt8, zs.length = 0 ∧ OB 5 (fun x => x = g) wr (.slice (some ⟨g, 0, none⟩) 0 c) zs := ⟨ps, hp0, by rw [hp0] at hv; exact hv⟩
        have hs1 := hf.size
        have HH := Lib.hid hh
        have HF := Lib.hid hf
        have HL := Lib.hid hlim
        have HZ := Lib.hid hz
        have hgl := (Own.block hv g rfl).2
        have hFar : ∀ k, wr.heap.size ≤ k → Far w g k := fun k hk => ⟨by omega, by omega⟩
        have HI := Lib.hid hv.rb
        clear hh hv hf hlim hz
        go_wp2_with (fail)
        refine (take_any file place _ zs wr HI.out).mono ?_
        rintro e wa ⟨b1, rfl, hb1, hfa⟩
        have HB1 := Lib.hid hb1
        have HFa := Lib.hid hfa
        clear hb1 hfa
        go_wp2_with (fail)
        refine (copied_any _ zs wa (HI.out.fr HFa.out) (by have := HZ.out; omega)).mono ?_
        rintro e wb ⟨b2, rfl, hb2, hfb, _⟩
        have HB2 := Lib.hid hb2
        have HBb := Lib.hid (hv3_of HB1.out hfb)
        have HFb := Lib.hid (none_fr HFa.out hfb)
        clear hb2 hfb
        go_wp2_with (fail)
        refine (taker_any file place _ zs wb HB2.out.rb).mono ?_
        rintro e wc ⟨b3, rfl, hb3, hfc⟩
        have HBc := Lib.hid (hv3_of HBb.out hfc)
        have HFc := Lib.hid (none_fr HFb.out hfc)
        have HSM := Lib.hid (same_any _ _ _ _ wc HBc.out.rb hb3.rb)
        have hne3 := hne (errOf file place zs)
        have hne4 := hne (manyOf file place zs)
        clear hb3 hfc
        rw [decide_eq_true rfl] at HSM
        go_wp2_with (fail)
        refine HSM.out.mono ?_
        rintro e we ⟨rfl, m1, rfl⟩
        go_wp2_with (fail)
        refine (held_keep HH.out HL.out (HFc.out.drewN m1) (Own.drewN HBc.out m1) hFar (Nat.le_trans (restOf_len _ _ _) (by omega)) (by omega) (by omega)).mono ?_
        rintro e wf ⟨vo', vw', d, rfl, hh5, hl5, hf5⟩
        have HH5 := Lib.hid hh5
        have HL5 := Lib.hid hl5
        have HF5 := Lib.hid ((HF.out.trans (HFc.out.drewN m1) (fun _ _ h => h)).trans hf5 (fun k hk h => by have := h.1; omega))
        have hs5 := hf5.size
        have hs6 := HFc.out.size
        clear hh5 hl5 hf5
        go_wp2_with (fail)
        refine (spoil_any wf h 66008 vo' vw' _ HH5.out (fun k hk => hFar k (by simp at hs5; omega)) (by omega) HL5.out (by simp; omega)).mono ?_
        rintro e wg ⟨rfl, hf6⟩
        have HF6 := Lib.hid (HF5.out.trans hf6 (fun k hk h => by have := h.1; omega))
        clear hf6
        go_wp2_with (fail)
        go_ret
        exact ⟨rfl, HF6.out⟩


end Go.Proofs.Ytgobbgklmjnnlaa
