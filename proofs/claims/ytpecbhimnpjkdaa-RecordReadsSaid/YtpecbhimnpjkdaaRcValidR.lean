/- The document's Valid, walked. -/
import Derived.Test.YtpecbhimnpjkdaaRcValidA
namespace Go.Proofs.Ytpecbhimnpjkdaa
open Go.RowKit Go.Sb

def LB (c : Nat) : Bool := (decide (97 ≤ c) && decide (c ≤ 122)) || ((decide (65 ≤ c) && decide (c ≤ 90)) || (decide (48 ≤ c) && decide (c ≤ 57)))
theorem mayC_LB (c : UInt8) : mayC c = (LB c.toNat || signs.contains c) := by
  unfold mayC LB
  simp only [Bool.or_assoc]

def IRel (sg : ByteArray) (b : Bool) (x : UInt8) (s6 s7 : Value) : Prop := ∃ k : Nat, s7 = .int .i64 (k : Int) ∧ k ≤ 9 ∧ s6 = .bool (b || (sg.data.toList.take k).contains x)

theorem contains_step (sg : ByteArray) (x : UInt8) (k : Nat) (h : k < sg.size) : (sg.data.toList.take (k + 1)).contains x = ((sg.data.toList.take k).contains x || ((x.toNat : Int) == ((sg[k]'h).toNat : Int))) := by
  rw [List.take_succ_eq_append_getElem (by simpa using h), List.contains_append]
  congr 1
  rw [ba_get]
  generalize sg.data.toList[k] = y
  simp only [List.contains_cons, List.contains_nil, Bool.or_false]
  by_cases hxy : x = y
  · subst hxy; simp
  · have : ¬ x.toNat = y.toNat := fun h => hxy (UInt8.toNat_inj.1 h)
    have h1 : (x == y) = false := by simpa using hxy
    have h2 : ((x.toNat : Int) == (y.toNat : Int)) = false := by simp only [beq_eq_false_iff_ne, ne_eq]; omega
    rw [h1, h2]

set_option maxRecDepth 100000 in
set_option maxHeartbeats 4000000 in
theorem valid_inR (s : ByteArray) (w : World) (hl : s.size ≤ 200) (h1 : 0 < s.size) (h0 : ((s[0]'h1) == 45) = false) : Calls Try.prog 48 #[.string s] w fun e w' => e = .returned (.bool (validB s)) ∧ w = w' := by
  have hz : (((s[0]'h1).toNat : Int) == 45) = false := by
    simp only [beq_eq_false_iff_ne, ne_eq] at h0 ⊢
    intro h
    apply h0
    apply UInt8.toNat_inj.1
    have : (s[0]'h1).toNat = 45 := by omega
    rw [this]
    rfl
  have hl' : ¬ (200 : Int) < (s.size : Int) := by omega
  have h1' : ¬ (s.size : Int) < 1 := by omega
  have hv0 : (s.data.toList.getD 0 0 == 45) = false := by
    have : s.data.toList.getD 0 0 = s[0]'h1 := by
      rw [ba_get, List.getD_eq_getElem?_getD, List.getElem?_eq_getElem]
      rfl
    rw [this]
    exact h0
  have hdec : decide (1 ≤ s.size ∧ s.size ≤ 200) = true := decide_eq_true ⟨h1, hl⟩
  have HV0 := Lib.hid hv0
  have HD := Lib.hid hdec
  clear h0 hv0 hdec
  go_enter Try.func48, Try.ntmps48
  go_wp2_with (fail)
  generalize hsg : (⟨#[45, 43, 47, 59, 46, 36, 95, 40, 41]⟩ : ByteArray) = sg
  have hsz : sg.size = 9 := by rw [← hsg]; rfl
  have HSG := Lib.hid hsg
  clear hsg
  go_loop [4, 5, 6, 7] (fun i _ _ _ => ValRel s i) (fun i _ _ _ => s.size - (intOf i).toNat)
  case atStart => exact ⟨0, rfl, Nat.zero_le _, fun j h hj => absurd hj (by omega)⟩
  case round =>
    obtain ⟨k, rfl, hk, hall⟩ := hrel
    by_cases hlt : k < s.size
    · have HALL := Lib.hid hall
      have HXE : Hid (s[k]'hlt = s[k]'hlt) := Lib.hid rfl
      clear hall
      have HF : Hid (mayC (s[k]'hlt) = false → validB s = false) := Lib.hid (fun hm => by
        unfold validB
        have : s.data.toList.all mayC = false := by
          rw [List.all_eq_false]
          exact ⟨s[k]'hlt, by rw [ba_get]; exact List.getElem_mem _, by rw [hm]; simp⟩
        rw [this]
        simp)
      have HT : Hid (mayC (s[k]'hlt) = true → ∀ j (h : j < s.size), j < k + 1 → mayC (s[j]'h) = true) := Lib.hid (fun hm j h hj => by
        rcases Nat.lt_or_ge j k with h2 | h2
        · exact HALL.out j h h2
        · have : j = k := by omega
          subst this
          exact hm)
      have HM := Lib.hid (mayC_LB (s[k]'hlt))
      have hc256 : (s[k]'hlt).toNat < 256 := (s[k]'hlt).toNat_lt
      clear HXE HALL
      have hcls : (97 ≤ (s[k]'hlt).toNat ∧ (s[k]'hlt).toNat ≤ 122) ∨ (122 < (s[k]'hlt).toNat) ∨ (90 < (s[k]'hlt).toNat ∧ (s[k]'hlt).toNat < 97) ∨ (65 ≤ (s[k]'hlt).toNat ∧ (s[k]'hlt).toNat ≤ 90) ∨ (57 < (s[k]'hlt).toNat ∧ (s[k]'hlt).toNat < 65) ∨ (48 ≤ (s[k]'hlt).toNat ∧ (s[k]'hlt).toNat ≤ 57) ∨ ((s[k]'hlt).toNat < 48) := by omega
      have HCS : Hid (∀ j (h : j < sg.size), (sg.data.toList.take (j + 1)).contains (s[k]'hlt) = ((sg.data.toList.take j).contains (s[k]'hlt) || (((s[k]'hlt).toNat : Int) == ((sg[j]'h).toNat : Int)))) := Lib.hid (fun j h => by exact contains_step sg (s[k]'hlt) j h)
      have HSI : Hid ((sg.data.toList.take 9).contains (s[k]'hlt) = signs.contains (s[k]'hlt)) := Lib.hid (by rw [← HSG.out]; rfl)
      rcases hcls with hc | hc | hc | hc | hc | hc | hc
      · have HLB : Hid (LB (s[k]'hlt).toNat = true) := Lib.hid (by unfold LB; rw [decide_eq_true (show 97 ≤ (s[k]'hlt).toNat from by omega)]; rw [decide_eq_true (show (s[k]'hlt).toNat ≤ 122 from by omega)]; rw [decide_eq_true (show 65 ≤ (s[k]'hlt).toNat from by omega)]; rw [decide_eq_false (show ¬ (s[k]'hlt).toNat ≤ 90 from by omega)]; rw [decide_eq_true (show 48 ≤ (s[k]'hlt).toNat from by omega)]; rw [decide_eq_false (show ¬ (s[k]'hlt).toNat ≤ 57 from by omega)]; rfl)
        have d0 : decide ((97 : Int) ≤ ((s[k]'hlt).toNat : Int)) = true := decide_eq_true (by omega)
        have d1 : decide (((s[k]'hlt).toNat : Int) ≤ 122) = true := decide_eq_true (by omega)
        have d2 : decide ((65 : Int) ≤ ((s[k]'hlt).toNat : Int)) = true := decide_eq_true (by omega)
        have d3 : decide (((s[k]'hlt).toNat : Int) ≤ 90) = false := decide_eq_false (by omega)
        have d4 : decide ((48 : Int) ≤ ((s[k]'hlt).toNat : Int)) = true := decide_eq_true (by omega)
        have d5 : decide (((s[k]'hlt).toNat : Int) ≤ 57) = false := decide_eq_false (by omega)
        clear hc
        go_wp2_with (fail)
        go_loop [6, 7] (fun s6 s7 => IRel sg true (s[k]'hlt) s6 s7) (fun _ s7 => 9 - (intOf s7).toNat)
        case atStart => exact ⟨0, rfl, by omega, by simp⟩
        case round =>
          obtain ⟨q, rfl, hq, rfl⟩ := hrel
          by_cases hq9 : q < 9
          · have hqs : q < sg.size := by omega
            have hstep := HCS.out q hqs
            have HST := Lib.hid hstep
            clear hstep
            cases hb : (true || (sg.data.toList.take q).contains (s[k]'hlt))
            · simp at hb
            · have HB : Hid ((true || (sg.data.toList.take (q + 1)).contains (s[k]'hlt)) = true) := Lib.hid (by rw [HST.out, ← Bool.or_assoc, hb, Bool.true_or])
              clear HST
              go_wp2_with (fail)
              go_round
              case rel => exact ⟨q + 1, by simp, by omega, by rw [HB.out]⟩
              case measure => simp [intOf]; omega
          · obtain rfl : q = 9 := by omega
            have HMM : Hid (mayC (s[k]'hlt) = (true || (sg.data.toList.take 9).contains (s[k]'hlt))) := Lib.hid (by rw [HM.out, HLB.out, HSI.out])
            cases hb : (true || (sg.data.toList.take 9).contains (s[k]'hlt))
            · simp at hb
            · have ht := HT.out (by rw [HMM.out, hb])
              have HTT := Lib.hid ht
              clear ht
              go_wp2_with (fail)
              go_round
              case rel => exact ⟨k + 1, by simp, by omega, HTT.out⟩
              case measure => simp [intOf]; omega
      · have HLB : Hid (LB (s[k]'hlt).toNat = false) := Lib.hid (by unfold LB; rw [decide_eq_true (show 97 ≤ (s[k]'hlt).toNat from by omega)]; rw [decide_eq_false (show ¬ (s[k]'hlt).toNat ≤ 122 from by omega)]; rw [decide_eq_true (show 65 ≤ (s[k]'hlt).toNat from by omega)]; rw [decide_eq_false (show ¬ (s[k]'hlt).toNat ≤ 90 from by omega)]; rw [decide_eq_true (show 48 ≤ (s[k]'hlt).toNat from by omega)]; rw [decide_eq_false (show ¬ (s[k]'hlt).toNat ≤ 57 from by omega)]; rfl)
        have d0 : decide ((97 : Int) ≤ ((s[k]'hlt).toNat : Int)) = true := decide_eq_true (by omega)
        have d1 : decide (((s[k]'hlt).toNat : Int) ≤ 122) = false := decide_eq_false (by omega)
        have d2 : decide ((65 : Int) ≤ ((s[k]'hlt).toNat : Int)) = true := decide_eq_true (by omega)
        have d3 : decide (((s[k]'hlt).toNat : Int) ≤ 90) = false := decide_eq_false (by omega)
        have d4 : decide ((48 : Int) ≤ ((s[k]'hlt).toNat : Int)) = true := decide_eq_true (by omega)
        have d5 : decide (((s[k]'hlt).toNat : Int) ≤ 57) = false := decide_eq_false (by omega)
        clear hc
        go_wp2_with (fail)
        go_loop [6, 7] (fun s6 s7 => IRel sg false (s[k]'hlt) s6 s7) (fun _ s7 => 9 - (intOf s7).toNat)
        case atStart => exact ⟨0, rfl, by omega, by simp⟩
        case round =>
          obtain ⟨q, rfl, hq, rfl⟩ := hrel
          by_cases hq9 : q < 9
          · have hqs : q < sg.size := by omega
            have hstep := HCS.out q hqs
            have HST := Lib.hid hstep
            clear hstep
            cases hb : (false || (sg.data.toList.take q).contains (s[k]'hlt))
            · have hb0 := (Bool.or_eq_false_iff.1 hb).2
              rw [hb0, Bool.false_or] at HST
              cases he : (((s[k]'hlt).toNat : Int) == ((sg[q]'hqs).toNat : Int))
              · rw [he] at HST
                go_wp2_with (fail)
                go_round
                case rel => exact ⟨q + 1, by simp, by omega, by rw [HST.out, (Bool.or_eq_false_iff.1 hb).1]; rfl⟩
                case measure => simp [intOf]; omega
              · rw [he] at HST
                go_wp2_with (fail)
                go_round
                case rel => exact ⟨q + 1, by simp, by omega, by rw [HST.out, Bool.or_true]⟩
                case measure => simp [intOf]; omega
            · have HB : Hid ((false || (sg.data.toList.take (q + 1)).contains (s[k]'hlt)) = true) := Lib.hid (by rw [HST.out, ← Bool.or_assoc, hb, Bool.true_or])
              clear HST
              go_wp2_with (fail)
              go_round
              case rel => exact ⟨q + 1, by simp, by omega, by rw [HB.out]⟩
              case measure => simp [intOf]; omega
          · obtain rfl : q = 9 := by omega
            have HMM : Hid (mayC (s[k]'hlt) = (false || (sg.data.toList.take 9).contains (s[k]'hlt))) := Lib.hid (by rw [HM.out, HLB.out, HSI.out])
            cases hb : (false || (sg.data.toList.take 9).contains (s[k]'hlt))
            · have he := HF.out (by rw [HMM.out, hb])
              have HE := Lib.hid he
              clear he
              go_wp2_with (fail)
              go_ret
              exact ⟨by rw [HE.out]; rfl, rfl⟩
            · have ht := HT.out (by rw [HMM.out, hb])
              have HTT := Lib.hid ht
              clear ht
              go_wp2_with (fail)
              go_round
              case rel => exact ⟨k + 1, by simp, by omega, HTT.out⟩
              case measure => simp [intOf]; omega
      · have HLB : Hid (LB (s[k]'hlt).toNat = false) := Lib.hid (by unfold LB; rw [decide_eq_false (show ¬ 97 ≤ (s[k]'hlt).toNat from by omega)]; rw [decide_eq_true (show (s[k]'hlt).toNat ≤ 122 from by omega)]; rw [decide_eq_true (show 65 ≤ (s[k]'hlt).toNat from by omega)]; rw [decide_eq_false (show ¬ (s[k]'hlt).toNat ≤ 90 from by omega)]; rw [decide_eq_true (show 48 ≤ (s[k]'hlt).toNat from by omega)]; rw [decide_eq_false (show ¬ (s[k]'hlt).toNat ≤ 57 from by omega)]; rfl)
        have d0 : decide ((97 : Int) ≤ ((s[k]'hlt).toNat : Int)) = false := decide_eq_false (by omega)
        have d1 : decide (((s[k]'hlt).toNat : Int) ≤ 122) = true := decide_eq_true (by omega)
        have d2 : decide ((65 : Int) ≤ ((s[k]'hlt).toNat : Int)) = true := decide_eq_true (by omega)
        have d3 : decide (((s[k]'hlt).toNat : Int) ≤ 90) = false := decide_eq_false (by omega)
        have d4 : decide ((48 : Int) ≤ ((s[k]'hlt).toNat : Int)) = true := decide_eq_true (by omega)
        have d5 : decide (((s[k]'hlt).toNat : Int) ≤ 57) = false := decide_eq_false (by omega)
        clear hc
        go_wp2_with (fail)
        go_loop [6, 7] (fun s6 s7 => IRel sg false (s[k]'hlt) s6 s7) (fun _ s7 => 9 - (intOf s7).toNat)
        case atStart => exact ⟨0, rfl, by omega, by simp⟩
        case round =>
          obtain ⟨q, rfl, hq, rfl⟩ := hrel
          by_cases hq9 : q < 9
          · have hqs : q < sg.size := by omega
            have hstep := HCS.out q hqs
            have HST := Lib.hid hstep
            clear hstep
            cases hb : (false || (sg.data.toList.take q).contains (s[k]'hlt))
            · have hb0 := (Bool.or_eq_false_iff.1 hb).2
              rw [hb0, Bool.false_or] at HST
              cases he : (((s[k]'hlt).toNat : Int) == ((sg[q]'hqs).toNat : Int))
              · rw [he] at HST
                go_wp2_with (fail)
                go_round
                case rel => exact ⟨q + 1, by simp, by omega, by rw [HST.out, (Bool.or_eq_false_iff.1 hb).1]; rfl⟩
                case measure => simp [intOf]; omega
              · rw [he] at HST
                go_wp2_with (fail)
                go_round
                case rel => exact ⟨q + 1, by simp, by omega, by rw [HST.out, Bool.or_true]⟩
                case measure => simp [intOf]; omega
            · have HB : Hid ((false || (sg.data.toList.take (q + 1)).contains (s[k]'hlt)) = true) := Lib.hid (by rw [HST.out, ← Bool.or_assoc, hb, Bool.true_or])
              clear HST
              go_wp2_with (fail)
              go_round
              case rel => exact ⟨q + 1, by simp, by omega, by rw [HB.out]⟩
              case measure => simp [intOf]; omega
          · obtain rfl : q = 9 := by omega
            have HMM : Hid (mayC (s[k]'hlt) = (false || (sg.data.toList.take 9).contains (s[k]'hlt))) := Lib.hid (by rw [HM.out, HLB.out, HSI.out])
            cases hb : (false || (sg.data.toList.take 9).contains (s[k]'hlt))
            · have he := HF.out (by rw [HMM.out, hb])
              have HE := Lib.hid he
              clear he
              go_wp2_with (fail)
              go_ret
              exact ⟨by rw [HE.out]; rfl, rfl⟩
            · have ht := HT.out (by rw [HMM.out, hb])
              have HTT := Lib.hid ht
              clear ht
              go_wp2_with (fail)
              go_round
              case rel => exact ⟨k + 1, by simp, by omega, HTT.out⟩
              case measure => simp [intOf]; omega
      · have HLB : Hid (LB (s[k]'hlt).toNat = true) := Lib.hid (by unfold LB; rw [decide_eq_false (show ¬ 97 ≤ (s[k]'hlt).toNat from by omega)]; rw [decide_eq_true (show (s[k]'hlt).toNat ≤ 122 from by omega)]; rw [decide_eq_true (show 65 ≤ (s[k]'hlt).toNat from by omega)]; rw [decide_eq_true (show (s[k]'hlt).toNat ≤ 90 from by omega)]; rw [decide_eq_true (show 48 ≤ (s[k]'hlt).toNat from by omega)]; rw [decide_eq_false (show ¬ (s[k]'hlt).toNat ≤ 57 from by omega)]; rfl)
        have d0 : decide ((97 : Int) ≤ ((s[k]'hlt).toNat : Int)) = false := decide_eq_false (by omega)
        have d1 : decide (((s[k]'hlt).toNat : Int) ≤ 122) = true := decide_eq_true (by omega)
        have d2 : decide ((65 : Int) ≤ ((s[k]'hlt).toNat : Int)) = true := decide_eq_true (by omega)
        have d3 : decide (((s[k]'hlt).toNat : Int) ≤ 90) = true := decide_eq_true (by omega)
        have d4 : decide ((48 : Int) ≤ ((s[k]'hlt).toNat : Int)) = true := decide_eq_true (by omega)
        have d5 : decide (((s[k]'hlt).toNat : Int) ≤ 57) = false := decide_eq_false (by omega)
        clear hc
        go_wp2_with (fail)
        go_loop [6, 7] (fun s6 s7 => IRel sg true (s[k]'hlt) s6 s7) (fun _ s7 => 9 - (intOf s7).toNat)
        case atStart => exact ⟨0, rfl, by omega, by simp⟩
        case round =>
          obtain ⟨q, rfl, hq, rfl⟩ := hrel
          by_cases hq9 : q < 9
          · have hqs : q < sg.size := by omega
            have hstep := HCS.out q hqs
            have HST := Lib.hid hstep
            clear hstep
            cases hb : (true || (sg.data.toList.take q).contains (s[k]'hlt))
            · simp at hb
            · have HB : Hid ((true || (sg.data.toList.take (q + 1)).contains (s[k]'hlt)) = true) := Lib.hid (by rw [HST.out, ← Bool.or_assoc, hb, Bool.true_or])
              clear HST
              go_wp2_with (fail)
              go_round
              case rel => exact ⟨q + 1, by simp, by omega, by rw [HB.out]⟩
              case measure => simp [intOf]; omega
          · obtain rfl : q = 9 := by omega
            have HMM : Hid (mayC (s[k]'hlt) = (true || (sg.data.toList.take 9).contains (s[k]'hlt))) := Lib.hid (by rw [HM.out, HLB.out, HSI.out])
            cases hb : (true || (sg.data.toList.take 9).contains (s[k]'hlt))
            · simp at hb
            · have ht := HT.out (by rw [HMM.out, hb])
              have HTT := Lib.hid ht
              clear ht
              go_wp2_with (fail)
              go_round
              case rel => exact ⟨k + 1, by simp, by omega, HTT.out⟩
              case measure => simp [intOf]; omega
      · have HLB : Hid (LB (s[k]'hlt).toNat = false) := Lib.hid (by unfold LB; rw [decide_eq_false (show ¬ 97 ≤ (s[k]'hlt).toNat from by omega)]; rw [decide_eq_true (show (s[k]'hlt).toNat ≤ 122 from by omega)]; rw [decide_eq_false (show ¬ 65 ≤ (s[k]'hlt).toNat from by omega)]; rw [decide_eq_true (show (s[k]'hlt).toNat ≤ 90 from by omega)]; rw [decide_eq_true (show 48 ≤ (s[k]'hlt).toNat from by omega)]; rw [decide_eq_false (show ¬ (s[k]'hlt).toNat ≤ 57 from by omega)]; rfl)
        have d0 : decide ((97 : Int) ≤ ((s[k]'hlt).toNat : Int)) = false := decide_eq_false (by omega)
        have d1 : decide (((s[k]'hlt).toNat : Int) ≤ 122) = true := decide_eq_true (by omega)
        have d2 : decide ((65 : Int) ≤ ((s[k]'hlt).toNat : Int)) = false := decide_eq_false (by omega)
        have d3 : decide (((s[k]'hlt).toNat : Int) ≤ 90) = true := decide_eq_true (by omega)
        have d4 : decide ((48 : Int) ≤ ((s[k]'hlt).toNat : Int)) = true := decide_eq_true (by omega)
        have d5 : decide (((s[k]'hlt).toNat : Int) ≤ 57) = false := decide_eq_false (by omega)
        clear hc
        go_wp2_with (fail)
        go_loop [6, 7] (fun s6 s7 => IRel sg false (s[k]'hlt) s6 s7) (fun _ s7 => 9 - (intOf s7).toNat)
        case atStart => exact ⟨0, rfl, by omega, by simp⟩
        case round =>
          obtain ⟨q, rfl, hq, rfl⟩ := hrel
          by_cases hq9 : q < 9
          · have hqs : q < sg.size := by omega
            have hstep := HCS.out q hqs
            have HST := Lib.hid hstep
            clear hstep
            cases hb : (false || (sg.data.toList.take q).contains (s[k]'hlt))
            · have hb0 := (Bool.or_eq_false_iff.1 hb).2
              rw [hb0, Bool.false_or] at HST
              cases he : (((s[k]'hlt).toNat : Int) == ((sg[q]'hqs).toNat : Int))
              · rw [he] at HST
                go_wp2_with (fail)
                go_round
                case rel => exact ⟨q + 1, by simp, by omega, by rw [HST.out, (Bool.or_eq_false_iff.1 hb).1]; rfl⟩
                case measure => simp [intOf]; omega
              · rw [he] at HST
                go_wp2_with (fail)
                go_round
                case rel => exact ⟨q + 1, by simp, by omega, by rw [HST.out, Bool.or_true]⟩
                case measure => simp [intOf]; omega
            · have HB : Hid ((false || (sg.data.toList.take (q + 1)).contains (s[k]'hlt)) = true) := Lib.hid (by rw [HST.out, ← Bool.or_assoc, hb, Bool.true_or])
              clear HST
              go_wp2_with (fail)
              go_round
              case rel => exact ⟨q + 1, by simp, by omega, by rw [HB.out]⟩
              case measure => simp [intOf]; omega
          · obtain rfl : q = 9 := by omega
            have HMM : Hid (mayC (s[k]'hlt) = (false || (sg.data.toList.take 9).contains (s[k]'hlt))) := Lib.hid (by rw [HM.out, HLB.out, HSI.out])
            cases hb : (false || (sg.data.toList.take 9).contains (s[k]'hlt))
            · have he := HF.out (by rw [HMM.out, hb])
              have HE := Lib.hid he
              clear he
              go_wp2_with (fail)
              go_ret
              exact ⟨by rw [HE.out]; rfl, rfl⟩
            · have ht := HT.out (by rw [HMM.out, hb])
              have HTT := Lib.hid ht
              clear ht
              go_wp2_with (fail)
              go_round
              case rel => exact ⟨k + 1, by simp, by omega, HTT.out⟩
              case measure => simp [intOf]; omega
      · have HLB : Hid (LB (s[k]'hlt).toNat = true) := Lib.hid (by unfold LB; rw [decide_eq_false (show ¬ 97 ≤ (s[k]'hlt).toNat from by omega)]; rw [decide_eq_true (show (s[k]'hlt).toNat ≤ 122 from by omega)]; rw [decide_eq_false (show ¬ 65 ≤ (s[k]'hlt).toNat from by omega)]; rw [decide_eq_true (show (s[k]'hlt).toNat ≤ 90 from by omega)]; rw [decide_eq_true (show 48 ≤ (s[k]'hlt).toNat from by omega)]; rw [decide_eq_true (show (s[k]'hlt).toNat ≤ 57 from by omega)]; rfl)
        have d0 : decide ((97 : Int) ≤ ((s[k]'hlt).toNat : Int)) = false := decide_eq_false (by omega)
        have d1 : decide (((s[k]'hlt).toNat : Int) ≤ 122) = true := decide_eq_true (by omega)
        have d2 : decide ((65 : Int) ≤ ((s[k]'hlt).toNat : Int)) = false := decide_eq_false (by omega)
        have d3 : decide (((s[k]'hlt).toNat : Int) ≤ 90) = true := decide_eq_true (by omega)
        have d4 : decide ((48 : Int) ≤ ((s[k]'hlt).toNat : Int)) = true := decide_eq_true (by omega)
        have d5 : decide (((s[k]'hlt).toNat : Int) ≤ 57) = true := decide_eq_true (by omega)
        clear hc
        go_wp2_with (fail)
        go_loop [6, 7] (fun s6 s7 => IRel sg true (s[k]'hlt) s6 s7) (fun _ s7 => 9 - (intOf s7).toNat)
        case atStart => exact ⟨0, rfl, by omega, by simp⟩
        case round =>
          obtain ⟨q, rfl, hq, rfl⟩ := hrel
          by_cases hq9 : q < 9
          · have hqs : q < sg.size := by omega
            have hstep := HCS.out q hqs
            have HST := Lib.hid hstep
            clear hstep
            cases hb : (true || (sg.data.toList.take q).contains (s[k]'hlt))
            · simp at hb
            · have HB : Hid ((true || (sg.data.toList.take (q + 1)).contains (s[k]'hlt)) = true) := Lib.hid (by rw [HST.out, ← Bool.or_assoc, hb, Bool.true_or])
              clear HST
              go_wp2_with (fail)
              go_round
              case rel => exact ⟨q + 1, by simp, by omega, by rw [HB.out]⟩
              case measure => simp [intOf]; omega
          · obtain rfl : q = 9 := by omega
            have HMM : Hid (mayC (s[k]'hlt) = (true || (sg.data.toList.take 9).contains (s[k]'hlt))) := Lib.hid (by rw [HM.out, HLB.out, HSI.out])
            cases hb : (true || (sg.data.toList.take 9).contains (s[k]'hlt))
            · simp at hb
            · have ht := HT.out (by rw [HMM.out, hb])
              have HTT := Lib.hid ht
              clear ht
              go_wp2_with (fail)
              go_round
              case rel => exact ⟨k + 1, by simp, by omega, HTT.out⟩
              case measure => simp [intOf]; omega
      · have HLB : Hid (LB (s[k]'hlt).toNat = false) := Lib.hid (by unfold LB; rw [decide_eq_false (show ¬ 97 ≤ (s[k]'hlt).toNat from by omega)]; rw [decide_eq_true (show (s[k]'hlt).toNat ≤ 122 from by omega)]; rw [decide_eq_false (show ¬ 65 ≤ (s[k]'hlt).toNat from by omega)]; rw [decide_eq_true (show (s[k]'hlt).toNat ≤ 90 from by omega)]; rw [decide_eq_false (show ¬ 48 ≤ (s[k]'hlt).toNat from by omega)]; rw [decide_eq_true (show (s[k]'hlt).toNat ≤ 57 from by omega)]; rfl)
        have d0 : decide ((97 : Int) ≤ ((s[k]'hlt).toNat : Int)) = false := decide_eq_false (by omega)
        have d1 : decide (((s[k]'hlt).toNat : Int) ≤ 122) = true := decide_eq_true (by omega)
        have d2 : decide ((65 : Int) ≤ ((s[k]'hlt).toNat : Int)) = false := decide_eq_false (by omega)
        have d3 : decide (((s[k]'hlt).toNat : Int) ≤ 90) = true := decide_eq_true (by omega)
        have d4 : decide ((48 : Int) ≤ ((s[k]'hlt).toNat : Int)) = false := decide_eq_false (by omega)
        have d5 : decide (((s[k]'hlt).toNat : Int) ≤ 57) = true := decide_eq_true (by omega)
        clear hc
        go_wp2_with (fail)
        go_loop [6, 7] (fun s6 s7 => IRel sg false (s[k]'hlt) s6 s7) (fun _ s7 => 9 - (intOf s7).toNat)
        case atStart => exact ⟨0, rfl, by omega, by simp⟩
        case round =>
          obtain ⟨q, rfl, hq, rfl⟩ := hrel
          by_cases hq9 : q < 9
          · have hqs : q < sg.size := by omega
            have hstep := HCS.out q hqs
            have HST := Lib.hid hstep
            clear hstep
            cases hb : (false || (sg.data.toList.take q).contains (s[k]'hlt))
            · have hb0 := (Bool.or_eq_false_iff.1 hb).2
              rw [hb0, Bool.false_or] at HST
              cases he : (((s[k]'hlt).toNat : Int) == ((sg[q]'hqs).toNat : Int))
              · rw [he] at HST
                go_wp2_with (fail)
                go_round
                case rel => exact ⟨q + 1, by simp, by omega, by rw [HST.out, (Bool.or_eq_false_iff.1 hb).1]; rfl⟩
                case measure => simp [intOf]; omega
              · rw [he] at HST
                go_wp2_with (fail)
                go_round
                case rel => exact ⟨q + 1, by simp, by omega, by rw [HST.out, Bool.or_true]⟩
                case measure => simp [intOf]; omega
            · have HB : Hid ((false || (sg.data.toList.take (q + 1)).contains (s[k]'hlt)) = true) := Lib.hid (by rw [HST.out, ← Bool.or_assoc, hb, Bool.true_or])
              clear HST
              go_wp2_with (fail)
              go_round
              case rel => exact ⟨q + 1, by simp, by omega, by rw [HB.out]⟩
              case measure => simp [intOf]; omega
          · obtain rfl : q = 9 := by omega
            have HMM : Hid (mayC (s[k]'hlt) = (false || (sg.data.toList.take 9).contains (s[k]'hlt))) := Lib.hid (by rw [HM.out, HLB.out, HSI.out])
            cases hb : (false || (sg.data.toList.take 9).contains (s[k]'hlt))
            · have he := HF.out (by rw [HMM.out, hb])
              have HE := Lib.hid he
              clear he
              go_wp2_with (fail)
              go_ret
              exact ⟨by rw [HE.out]; rfl, rfl⟩
            · have ht := HT.out (by rw [HMM.out, hb])
              have HTT := Lib.hid ht
              clear ht
              go_wp2_with (fail)
              go_round
              case rel => exact ⟨k + 1, by simp, by omega, HTT.out⟩
              case measure => simp [intOf]; omega
    · have hkn : k = s.size := by omega
      subst hkn
      have he : validB s = true := by
        unfold validB
        rw [HD.out, HV0.out]
        have : s.data.toList.all mayC = true := by
          rw [List.all_eq_true]
          intro x hx
          obtain ⟨j, hj, rfl⟩ := List.getElem_of_mem hx
          have := hall j (by simpa using hj) (by simpa using hj)
          rw [ba_get] at this
          exact this
        rw [this]
        rfl
      clear hall
      go_wp2_with (fail)
      go_ret
      exact ⟨rfl, rfl⟩

set_option maxRecDepth 100000 in
theorem valid_anyR (s : ByteArray) (w : World) : Calls Try.prog 48 #[.string s] w fun e w' => e = .returned (.bool (validB s)) ∧ w = w' := by
  by_cases h1 : 0 < s.size
  · by_cases h2 : s.size ≤ 200
    · cases h0 : ((s[0]'h1) == 45)
      · exact valid_inR s w h2 h1 h0
      · have hv : validB s = false := by
          unfold validB
          have : s.data.toList.getD 0 0 = s[0]'h1 := by
            rw [ba_get, List.getD_eq_getElem?_getD, List.getElem?_eq_getElem]
            rfl
          rw [this, h0]
          simp
        have hz : (((s[0]'h1).toNat : Int) == 45) = true := by
          have : s[0]'h1 = 45 := by simpa using h0
          rw [this]
          rfl
        have hl' : ¬ (200 : Int) < (s.size : Int) := by omega
        have h1' : ¬ (s.size : Int) < 1 := by omega
        rw [hv]
        clear h0 hv
        go_enter Try.func48, Try.ntmps48
        go_wp2_with (fail)
        go_ret
        exact ⟨rfl, rfl⟩
    · have hv : validB s = false := by
        unfold validB
        rw [decide_eq_false (by omega)]
        rfl
      have hl' : (200 : Int) < (s.size : Int) := by omega
      have h1' : ¬ (s.size : Int) < 1 := by omega
      rw [hv]
      clear hv
      go_enter Try.func48, Try.ntmps48
      go_wp2_with (fail)
      go_ret
      exact ⟨rfl, rfl⟩
  · have hv : validB s = false := by
      unfold validB
      rw [decide_eq_false (by omega)]
      rfl
    have h1' : (s.size : Int) < 1 := by omega
    rw [hv]
    clear hv
    go_enter Try.func48, Try.ntmps48
    go_wp2_with (fail)
    go_ret
    exact ⟨rfl, rfl⟩

end Go.Proofs.Ytpecbhimnpjkdaa
