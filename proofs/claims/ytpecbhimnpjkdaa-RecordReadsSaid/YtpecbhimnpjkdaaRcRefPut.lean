/- The document's Put and Size, walked. -/
import Derived.Test.YtpecbhimnpjkdaaRcRefCheck
import Derived.Test.YtpecbhimnpjkdaaRcRefNums
namespace Go.Proofs.Ytpecbhimnpjkdaa
open Go.RowKit Go.Sb

set_option maxRecDepth 100000 in
set_option maxHeartbeats 2000000 in
theorem refput_no (k : Int) (ns : List Int) (tube : ByteArray) (bp : Option Addr) (bn bc : Nat) (w : World) (r : Int) (hl : ns.length = 16) (hr : (r == 0) = false) (hc : Hid (checkE k ns tube bn = r)) :
    Calls Try.prog 22 #[recV k ns tube (.slice bp bn bc)] w fun e w' => e = .returned (.tuple #[.slice none 0 0, .int .i64 r]) ∧ Fr (fun _ => False) w w' := by
  have hg := heap_alloc_eq w (.cells (recC k ns tube (.slice bp bn bc)) 29)
  have hi29 : (Try.prog.info? 29).map (·.size) = some (recC k ns tube (.slice bp bn bc)).size := info29s
  have HCH : Hid (∀ w' : World, Calls Try.prog 20 #[.agg (recC k ns tube (.slice bp bn bc))] w' fun e w'' => e = .returned (.int .i64 r) ∧ Fr (fun _ => False) w' w'') := Lib.hid (fun w' => by
    have h := check_anyR k ns tube bp bn bc w' hl
    rw [hc.out] at h
    exact h)
  have HG := Lib.hid hg
  have HF0 := Lib.hid ((Fr.refl (fun _ => False) w).alloc (.cells (recC k ns tube (.slice bp bn bc)) 29))
  clear hg hc
  unfold recV
  generalize recC k ns tube (.slice bp bn bc) = rc at *
  go_enter Try.func22, Try.ntmps22
  go_wp2_with ((refine load_guard _ _ rfl ?_); refine wpList_load_row rfl 29 _ rfl w.heap.size rfl 29 _ (0, 0) _ HG.out Try.underlying29 rfl hi29 ?_)
  refine (HCH.out _).mono ?_
  rintro e w2 ⟨rfl, hf2⟩
  have HF2 := Lib.hid (HF0.out.trans hf2 (fun _ _ h => h))
  clear hf2
  go_wp2_with (fail)
  go_ret2
  exact ⟨rfl, HF2.out⟩

def RPutRel (h : UInt8) (ns : List Int) (l : List Nat) (b5 : Nat) (w5 : World) (v i : Value) (wr : World) : Prop :=
  ∃ j : Nat, i = .int .i64 (j : Int) ∧ j ≤ l.length ∧ OB 5 (PutF b5 w5) wr v (h :: numsL ns (l.take j)) ∧ Fr (fun x => x = b5) w5 wr
def RInRel (pre : List UInt8) (n : Nat) (b5 : Nat) (w5 : World) (v t8 t9 : Value) (wr : World) : Prop :=
  ∃ q : Nat, t9 = .int .i64 (q : Int) ∧ q ≤ 8 ∧ t8 = .int .i64 ((n / 256 ^ q : Nat) : Int) ∧ OB 5 (PutF b5 w5) wr v (pre ++ le n q) ∧ Fr (fun x => x = b5) w5 wr

set_option maxRecDepth 100000 in
set_option maxHeartbeats 4000000 in
theorem refput_yes (k : Int) (ns : List Int) (tube : ByteArray) (bp : Option Addr) (bn bc : Nat) (xs : List UInt8) (w : World) (hl : ns.length = 16) (hk : Kind k) (hc : Hid (checkE k ns tube bn = 0))
    (hpos : Hid (∀ i ∈ ofList k, 0 ≤ at0 ns i ∧ at0 ns i ≤ 4611686018427387903)) (hb : Hid (RB w (.slice bp bn bc) xs)) (ht : Hid (k = 2 → tube.size ≤ 200 ∧ xs.length ≤ 65535)) :
    Calls Try.prog 22 #[recV k ns tube (.slice bp bn bc)] w (PutPost (putL k ns tube xs) w) := by
  have hg := heap_alloc_eq w (.cells (recC k ns tube (.slice bp bn bc)) 29)
  have hi29 : (Try.prog.info? 29).map (·.size) = some (recC k ns tube (.slice bp bn bc)).size := info29s
  have HCH : Hid (∀ w' : World, Calls Try.prog 20 #[.agg (recC k ns tube (.slice bp bn bc))] w' fun e w'' => e = .returned (.int .i64 0) ∧ Fr (fun _ => False) w' w'') := Lib.hid (fun w' => by
    have h := check_anyR k ns tube bp bn bc w' hl
    rw [hc.out] at h
    exact h)
  have HNUM : Hid (∀ w' : World, Calls Try.prog 40 #[.agg (recC k ns tube (.slice bp bn bc))] w' (NumsPost k ns w')) := Lib.hid (fun w' => refnums_any k ns tube bp bn bc w' hk)
  have hcell : Hid (∀ w' : World, w'.heap[w.heap.size]? = some (.cells (recC k ns tube (.slice bp bn bc)) 29 (0, 0)) → w'.cell? ⟨w.heap.size, 0, none⟩ = some (.int .i64 k) ∧ w'.cell? ⟨w.heap.size, 17, none⟩ = some (.string tube) ∧ w'.cell? ⟨w.heap.size, 18, none⟩ = some (.slice bp bn bc)) :=
    Lib.hid (fun w' h => ⟨cell_is h 0 rfl, cell_is h 17 rfl, cell_is h 18 rfl⟩)
  have HG := Lib.hid hg
  have HF0 := Lib.hid ((Fr.refl (fun _ => False) w).alloc (.cells (recC k ns tube (.slice bp bn bc)) 29))
  have HKB := Lib.hid (kind_byte hk)
  clear hg hc
  unfold recV
  generalize recC k ns tube (.slice bp bn bc) = rc at *
  go_enter Try.func22, Try.ntmps22
  go_wp2_with ((refine load_guard _ _ rfl ?_); refine wpList_load_row rfl 29 _ rfl w.heap.size rfl 29 _ (0, 0) _ HG.out Try.underlying29 rfl hi29 ?_)
  refine (HCH.out _).mono ?_
  rintro e w2 ⟨rfl, hf2⟩
  have HF2 := Lib.hid (HF0.out.trans hf2 (fun _ _ h => h))
  have HG2 := Lib.hid (hf2.get HG.out id)
  obtain ⟨c0, c17, c18⟩ := hcell.out w2 HG2.out
  have hb2 : w.heap.size < w2.heap.size := lt_of_heap HG2.out
  clear hf2 HG HF0
  have hf23 : Fr (fun _ => False) w2 (w2.alloc (.cells #[.int .u8 (k % 256)] 5)) := (Fr.refl _ w2).alloc _
  have HG3 := Lib.hid (hf23.get HG2.out id)
  have HF3 := Lib.hid (HF2.out.trans hf23 (fun _ _ h => h))
  have HOWN : Hid (OB 5 (fun x => x = w2.heap.size) (w2.alloc (.cells #[.int .u8 (k % 256)] 5)) (.slice (some ⟨w2.heap.size, 0, none⟩) 1 1) [kindB k]) := Lib.hid (by
    refine ⟨rfl, .inr ⟨w2.heap.size, 1, _, rfl, rfl, heap_alloc_eq _ _, Nat.le_refl _, by decide, rfl, ?_⟩⟩
    rw [HKB.out]
    rfl)
  clear hf23
  go_wp2_with ((refine load_guard _ _ rfl ?_); refine wpList_load_row rfl 29 _ rfl w.heap.size rfl 29 _ (0, 0) _ HG3.out Try.underlying29 rfl hi29 ?_)
  refine (HNUM.out _).mono ?_
  rintro e w5 ⟨vl, rfl, hvl, hf5⟩
  have hll0 : 0 < (ofList k).length := by rcases hk with rfl | rfl | rfl | rfl <;> decide
  obtain ⟨b7, cap, rfl, hcap, hcapm, hvb⟩ : ∃ g cap, vl = .slice (some ⟨g, 0, none⟩) (ofList k).length cap ∧ (ofList k).length ≤ cap ∧ cap ≤ maxLen ∧ vl.ownBlock = some g := by
    rcases hvl.shape with ⟨_, h0, _⟩ | h
    · omega
    · exact h
  have hb7 := hvl.block _ hvb
  have HVL := Lib.hid (hvl.mono (G := fun x => w2.heap.size < x) (fun x _ h => by simp at h; omega))
  have HG5 := Lib.hid (hf5.get HG3.out id)
  have HF5 := Lib.hid (HF3.out.trans hf5 (fun _ _ h => h))
  have hle5 : w2.heap.size + 1 ≤ b7 := by have := hb7.1; simp at this; exact this
  have hlt7 : b7 < w5.heap.size := hb7.2
  have HOWN5 : Hid (OB 5 (PutF w2.heap.size w5) w5 (.slice (some ⟨w2.heap.size, 0, none⟩) 1 1) [kindB k]) := Lib.hid ((HOWN.out.fr hf5 (fun _ _ _ h => h)).mono (fun x _ h => .inl h))
  have hne7 : b7 ≠ w2.heap.size := by omega
  have hne0 : w.heap.size ≠ w2.heap.size := by omega
  have hle0 : w.heap.size ≤ w2.heap.size := by omega
  have hlt5 : w2.heap.size < w5.heap.size := by omega
  clear hvl hf5 HOWN HG2 HG3 c0 c17 c18 hb7
  generalize hqb : w2.heap.size = b5 at *
  clear hqb
  have HL13 := Lib.hid (ofList_len k)
  have HPUT : Hid (putL k ns tube xs = kindB k :: (numsL ns (ofList k) ++ (if k = 2 then textL tube xs else []))) := Lib.hid rfl
  generalize hlist : ofList k = l at *
  have HLIST := Lib.hid hlist
  clear hlist
  have hl13 := HL13.out
  go_wp2_with (fail)
  go_loopw [5, 7, 8, 9] (fun v i _ _ wr => ∃ vv, vv = v ∧ RPutRel (kindB k) ns l b5 w5 vv i wr) (fun _ i _ _ _ => l.length - (intOf i).toNat)
  case atStart => exact ⟨_, rfl, 0, rfl, by omega, HOWN5.out, Fr.refl _ _⟩
  case round =>
    obtain ⟨vv, rfl, j, rfl, hj, hv, hf⟩ := hrel
    have HV := Lib.hid hv
    have HF := Lib.hid hf
    have hsw := hf.size
    clear hv hf
    by_cases hlt : j < l.length
    · obtain ⟨hp0, hp1⟩ := hpos.out _ (List.getElem_mem hlt)
      obtain ⟨n, hn⟩ : ∃ n : Nat, at0 ns l[j] = (n : Int) := ⟨(at0 ns l[j]).toNat, by omega⟩
      have hn1 : n ≤ 4611686018427387903 := by omega
      have cj : wr.cell? ⟨b7, j, none⟩ = some (.int .i64 (n : Int)) := by
        have h := (HVL.out.fr HF.out (fun x hx h he => by omega)).cell hvb (j := j) (u := .int .i64 (n : Int)) (by unfold numsV; rw [List.getElem?_map, List.getElem?_eq_getElem hlt, Option.map_some, hn])
        exact h
      have HTK : Hid (kindB k :: numsL ns (l.take (j + 1)) = (kindB k :: numsL ns (l.take j)) ++ le n 8) := Lib.hid (by rw [numsL_take hlt, hn]; rfl)
      have HLN : Hid ((kindB k :: numsL ns (l.take j)).length ≤ 105) := Lib.hid (by have := HL13.out; rw [List.length_cons, numsL_length, List.length_take]; omega)
      have HJ : Hid (j + 1 ≤ l.length) := Lib.hid hlt
      have HN1 := Lib.hid hn1
      clear hn hp0 hp1 hn1
      generalize kindB k :: numsL ns (l.take j) = pre at *
      go_wp2_with (fail)
      go_loopw [5, 8, 9] (fun v t8 t9 wq => ∃ vq, vq = v ∧ RInRel pre n b5 w5 vq t8 t9 wq) (fun _ _ t9 _ => 8 - (intOf t9).toNat)
      case atStart => exact ⟨_, rfl, 0, rfl, by omega, by simp, by simpa [le] using HV.out, HF.out⟩
      case round =>
        obtain ⟨vq, rfl, q, rfl, hq, rfl, hvq, hfq⟩ := hrel
        have HVQ := Lib.hid hvq
        have HFQ := Lib.hid hfq
        clear hvq hfq
        by_cases hq8 : q < 8
        · have hm : n / 256 ^ q ≤ 4611686018427387903 := Nat.le_trans (Nat.div_le_self _ _) HN1.out
          have HQ : Hid (n / 256 ^ q / 256 = n / 256 ^ (q + 1)) := Lib.hid (by rw [Nat.pow_succ, ← Nat.div_div_eq_div_mul])
          have HL : Hid (le n (q + 1) = le n q ++ [UInt8.ofNat (n / 256 ^ q)]) := Lib.hid (le_snoc n q)
          have HPL : Hid ((pre ++ le n q).length ≤ 113) := Lib.hid (by rw [List.length_append, le_length]; have := HLN.out; omega)
          generalize hm2 : n / 256 ^ (q + 1) = m2 at *
          generalize n / 256 ^ q = m at *
          go_wp2_with (at_builtin; refine wpList_append_Own _ rfl _ _ 22 rfl 5 (.int .u8 0) 1 1 Try.underlying22 info5 rfl (by decide) vq _ _ rfl (HVQ.out.alloc _) (.slice (some ⟨wr.heap.size, 0, none⟩) 1 1) 1 _ rfl (src_byte wr (.int .u8 ((m : Int) % 256)) rfl 5) (by have := HPL.out; unfold maxLen; omega) (by have := HPL.out; omega) ?_; intro v3 w3 hv3 hf3 hn3 _; have hf4 : Fr (fun x => x = b5) w5 w3 := ((HFQ.out.alloc _).trans hf3 (fun x hx he => (HVQ.out.block x he).1.elim id (fun h => absurd hx (by omega)))); have HV3 := Lib.hid hv3; have HF4 := Lib.hid hf4; have HSZ : Hid (w5.heap.size ≤ wr.heap.size) := Lib.hid HFQ.out.size; clear hv3 hf3 hn3 hf4)
          go_roundw
          case rel =>
            refine ⟨_, rfl, q + 1, by simp, hq8, ?_, ?_, HF4.out⟩
            · rw [hm2, ← HQ.out, Int.natCast_ediv]; rfl
            · have h := HV3.out
              have em : [Value.int .u8 ((m : Int) % 256)] = [UInt8.ofNat m].map byte := by rw [byte_of]; rfl
              rw [em] at h
              have h2 := OB.app (G := PutF b5 w5) (ys := [UInt8.ofNat m]) h (fun _ h => h) (fun x hx => .inr (by have := HSZ.out; simp at hx; omega))
              rw [HL.out, ← List.append_assoc]
              exact h2
          case measure => simp [intOf]; omega
        · obtain rfl : q = 8 := by omega
          go_wp2_with (fail)
          go_roundw
          case rel => exact ⟨_, rfl, j + 1, by simp, HJ.out, by rw [HTK.out]; exact HVQ.out, HFQ.out⟩
          case measure => simp [intOf]; omega
    · have hje : j = l.length := by omega
      subst hje
      rw [List.take_length] at HV
      cases h2 : (k == 2)
      · have hk2 : k ≠ 2 := by simpa using h2
        obtain ⟨c0, c17, c18⟩ := hcell.out wr (HF.out.get HG5.out hne0)
        have HP : Hid (putL k ns tube xs = kindB k :: numsL ns l) := Lib.hid (by rw [HPUT.out, if_neg hk2, List.append_nil])
        go_wp2_with (fail)
        go_ret2
        refine ⟨_, rfl, ?_, HF5.out.trans HF.out (fun x hx h => by omega)⟩
        rw [HP.out]
        exact HV.out.mono (fun x _ h => h.elim (fun h => by omega) (fun h => Nat.le_trans HF5.out.size h))
      · have hk2 : k = 2 := by simpa using h2
        obtain ⟨ht1, ht2⟩ := ht.out hk2
        have hbx := hb.out
        have hbn : bn = xs.length := by
          obtain ⟨a, c, h, _⟩ := hbx
          cases h
          rfl
        obtain ⟨c0, c17, c18⟩ := hcell.out wr (HF.out.get HG5.out hne0)
        have HFw := Lib.hid (HF5.out.trans HF.out (fun x hx h => by omega) : Fr (fun _ => False) w wr)
        have HB := Lib.hid (hbx.fr HFw.out)
        have HX := Lib.hid (show xs.length ≤ 65535 from ht2)
        have HT := Lib.hid (show tube.size ≤ 200 from ht1)
        have HN0 : Hid ((kindB k :: numsL ns l).length ≤ 129) := Lib.hid (by have := HL13.out; rw [List.length_cons, numsL_length]; omega)
        have HP : Hid (putL k ns tube xs = (((kindB k :: numsL ns l) ++ [UInt8.ofNat tube.size]) ++ tube.data.toList) ++ xs) := Lib.hid (by rw [HPUT.out, if_pos hk2, textL]; simp)
        have HV0 : Hid (OB 5 (fun x => w.heap.size + 1 ≤ x) wr vv (kindB k :: numsL ns l)) := Lib.hid (HV.out.mono (fun x _ h => h.elim (fun h => by omega) (fun h => by have := HF5.out.size; omega)))
        have HTR : Hid (∀ w' : World, Fr (fun x => w.heap.size + 1 ≤ x) wr w' → w'.cell? ⟨w.heap.size, 17, none⟩ = some (.string tube) ∧ w'.cell? ⟨w.heap.size, 18, none⟩ = some (.slice bp bn bc)) :=
          Lib.hid (fun w' h => (hcell.out w' (h.get (HF.out.get HG5.out hne0) (fun h => by omega))).2)
        have hbw9 : w.heap.size < wr.heap.size := by have := HF.out.size; omega
        have HBW := Lib.hid hbw9
        obtain ⟨i5, hi5, hz5, hs5, hb5⟩ := info_parts info5
        have HT1 : Hid ([Value.int .u8 ((tube.size : Int) % 256)] = [UInt8.ofNat tube.size].map byte) := Lib.hid (by rw [byte_of]; rfl)
        clear ht1 ht2 HV HF hbn
        go_wp2_with (first
          | (at_builtin; refine wpList_append_Own _ rfl _ _ 22 rfl 5 (.int .u8 0) 1 1 Try.underlying22 info5 rfl (by decide) vv _ _ rfl (HV0.out.alloc _) (.slice (some ⟨wr.heap.size, 0, none⟩) 1 1) 1 _ rfl (src_byte wr (.int .u8 ((tube.size : Int) % 256)) rfl 5) (by have := HN0.out; unfold maxLen; omega) (by have := HN0.out; omega) ?_; intro v3 w3 hv3 hf3 hn3 _; have h3 : Fr (fun x => w.heap.size + 1 ≤ x) wr w3 := (((Fr.refl _ wr).alloc _).trans hf3 (fun j hj he => (HV0.out.block j he).1)); obtain ⟨d17, d18⟩ := HTR.out w3 h3; have HF3' := Lib.hid h3; have HV3 : Hid (OB 5 (fun x => w.heap.size + 1 ≤ x) w3 v3 ((kindB k :: numsL ns l) ++ [UInt8.ofNat tube.size])) := Lib.hid (OB.app (ys := [UInt8.ofNat tube.size]) (by rw [HT1.out] at hv3; exact hv3) (fun _ h => h) (fun x hx => by have := HBW.out; simp at hx; omega)); clear h3 hv3 hf3 hn3 c17 c18)
          | (at_builtin; refine Lib.wpList_append_own_string _ rfl _ _ 22 9 rfl (w.heap.size + 1) 5 i5 Try.underlying22 Try.underlying9 hi5 hz5 hs5 hb5 v3 _ _ rfl HV3.out tube rfl (by have := HN0.out; have := HT.out; rw [List.length_append]; simp only [List.length_singleton]; unfold maxLen; omega) (by have := HN0.out; have := HT.out; rw [List.length_append]; simp only [List.length_singleton]; omega) (by have := HF3'.out.size; have := HBW.out; omega) ?_; intro v4 w4 hv4 hg4 hn4; have h4 : Fr (fun x => w.heap.size + 1 ≤ x) wr w4 := HF3'.out.grown hg4 (fun j hj => .inl (HV3.out.block j hj).1); obtain ⟨e17, e18⟩ := HTR.out w4 h4; have HF4 := Lib.hid (HFw.out.trans h4 (fun x hx h => by omega)); have HV4 : Hid (OB 5 (fun x => w.heap.size + 1 ≤ x) w4 v4 (((kindB k :: numsL ns l) ++ [UInt8.ofNat tube.size]) ++ tube.data.toList)) := Lib.hid (by unfold OB; rw [List.length_append (bs := tube.data.toList), List.map_append, ← strCells_bytes]; exact hv4); clear hv4 hg4 hn4 h4 d17 d18)
          | (at_builtin; refine wpList_append_Own _ rfl _ _ 22 rfl 5 (.int .u8 0) 1 1 Try.underlying22 info5 rfl (by decide) v4 _ _ rfl HV4.out (.slice bp bn bc) _ _ rfl (hb.out.fr HF4.out).src (by have := HN0.out; have := HT.out; have := HX.out; simp only [List.length_append, List.length_singleton, Array.length_toList]; unfold maxLen; show _ + tube.size + _ ≤ _; omega) (by have := HN0.out; have := HT.out; have := HX.out; simp only [List.length_append, List.length_singleton, Array.length_toList]; show ((_ + tube.size + _) + (_ + tube.size + _) / 4 + 192) * 1 ≤ _; omega) ?_; intro v5 w5 hv5 hf5 hn5 _; have HF5 := Lib.hid (HF4.out.trans hf5 (fun j hj he => by have := (HV4.out.block j he).1; omega)); have HV5 : Hid (OB 5 (fun x => w.heap.size ≤ x) w5 v5 ((((kindB k :: numsL ns l) ++ [UInt8.ofNat tube.size]) ++ tube.data.toList) ++ xs)) := Lib.hid (OB.app hv5 (fun x h => by omega) (fun x hx => Nat.le_trans HF4.out.size hx)); clear hv5 hf5 hn5))
        go_ret2
        refine ⟨_, rfl, ?_, HF5.out⟩
        rw [← hk2, HP.out]
        exact HV5.out

theorem refput_any (k : Int) (ns : List Int) (tube : ByteArray) (v : Value) (xs : List UInt8) (w : World) (hl : ns.length = 16) (hv : RB w v xs) :
    Calls Try.prog 22 #[recV k ns tube v] w (TwoPost (putX k ns tube xs) (checkE k ns tube xs.length) w) := by
  have hv0 := hv
  obtain ⟨a, c, rfl, -⟩ := hv0
  by_cases hc : checkE k ns tube xs.length = 0
  · have hp : putX k ns tube xs = putL k ns tube xs := if_pos hc
    rw [hp, hc]
    exact refput_yes k ns tube a xs.length c xs w hl (check0 hc).1 (Lib.hid hc) (Lib.hid (check_pos hc)) (Lib.hid hv) (Lib.hid (check_text hc))
  · have hp : putX k ns tube xs = [] := if_neg hc
    rw [hp]
    refine (refput_no k ns tube a xs.length c w _ hl (by simpa using hc) (Lib.hid rfl)).mono ?_
    rintro e w' ⟨rfl, hf⟩
    exact ⟨_, rfl, Own.nil _ _ _ _, hf⟩

theorem putL_length' {k : Int} {ns : List Int} {tube : ByteArray} {xs : List UInt8} : (putL k ns tube xs).length = 1 + 8 * (ofList k).length + (if k = 2 then 1 + tube.size + xs.length else 0) := by
  have hd : tube.data.toList.length = tube.size := rfl
  unfold putL textL
  split
  · simp only [List.length_cons, List.length_append, numsL_length, hd, List.length_nil]
    omega
  · simp only [List.length_cons, List.length_append, numsL_length, List.length_nil]
    omega

theorem size_put (k : Int) (ns : List Int) (tube : ByteArray) (xs : List UInt8) (hc : checkE k ns tube xs.length = 0) : sizeN k ns tube xs.length = 8 + (putL k ns tube xs).length := by
  rw [sizeN, if_pos hc, putL_length']
  omega

set_option maxRecDepth 100000 in
set_option maxHeartbeats 2000000 in
theorem refsize_any (k : Int) (ns : List Int) (tube : ByteArray) (v : Value) (xs : List UInt8) (w : World) (hl : ns.length = 16) (hv : RB w v xs) :
    Calls Try.prog 21 #[recV k ns tube v] w fun e w' => e = .returned (.int .i64 (sizeN k ns tube xs.length : Int)) ∧ Fr (fun _ => False) w w' := by
  have hv0 := hv
  obtain ⟨a, c, rfl, -⟩ := hv0
  have HG := Lib.hid (heap_alloc_eq w (.cells (recC k ns tube (.slice a xs.length c)) 29))
  have HF0 := Lib.hid ((Fr.refl (fun _ => False) w).alloc (.cells (recC k ns tube (.slice a xs.length c)) 29))
  have hi29 : (Try.prog.info? 29).map (·.size) = some (recC k ns tube (.slice a xs.length c)).size := info29s
  have HP : Hid (Calls Try.prog 22 #[.agg (recC k ns tube (.slice a xs.length c))] (w.alloc (.cells (recC k ns tube (.slice a xs.length c)) 29)) (TwoPost (putX k ns tube xs) (checkE k ns tube xs.length) (w.alloc (.cells (recC k ns tube (.slice a xs.length c)) 29)))) := Lib.hid (refput_any k ns tube _ xs _ hl (hv.fr HF0.out))
  by_cases hc : checkE k ns tube xs.length = 0
  · have hs := size_put k ns tube xs hc
    have hle : (putL k ns tube xs).length ≤ 70000 := by
      rw [putL_length']
      have := ofList_len k
      split
      · have := check_text hc (by assumption)
        omega
      · omega
    rw [hc, putX, if_pos hc] at HP
    have HS := Lib.hid hs
    clear hv hs hc
    generalize hpl : putL k ns tube xs = pl at *
    clear hpl
    unfold recV
    generalize recC k ns tube (.slice a xs.length c) = rc at *
    go_enter Try.func21, Try.ntmps21
    go_wp2_with ((refine load_guard _ _ rfl ?_); refine wpList_load_row rfl 29 _ rfl w.heap.size rfl 29 _ (0, 0) _ HG.out Try.underlying29 rfl hi29 ?_)
    refine HP.out.mono ?_
    rintro e w2 ⟨v2, rfl, hv2, hf2⟩
    obtain ⟨a2, c2, rfl, -⟩ := hv2.rb
    have HF2 := Lib.hid (HF0.out.trans hf2 (fun _ _ h => h))
    clear hv2 hf2
    generalize hpn : pl.length = n at *
    go_wp2_with (fail)
    go_ret
    refine ⟨?_, HF2.out⟩
    rw [HS.out, show ((8 + n : Nat) : Int) = 8 + (n : Int) by omega]
    rfl
  · have hs : sizeN k ns tube xs.length = 0 := if_neg hc
    have hc1 : (checkE k ns tube xs.length == 0) = false := by simpa using hc
    rw [hs]
    clear hv hs hc
    generalize checkE k ns tube xs.length = r at *
    generalize putX k ns tube xs = pl at *
    unfold recV
    generalize recC k ns tube (.slice a xs.length c) = rc at *
    go_enter Try.func21, Try.ntmps21
    go_wp2_with ((refine load_guard _ _ rfl ?_); refine wpList_load_row rfl 29 _ rfl w.heap.size rfl 29 _ (0, 0) _ HG.out Try.underlying29 rfl hi29 ?_)
    refine HP.out.mono ?_
    rintro e w2 ⟨v2, rfl, hv2, hf2⟩
    have HF2 := Lib.hid (HF0.out.trans hf2 (fun _ _ h => h))
    clear hv2 hf2
    go_wp2_with (fail)
    go_ret
    exact ⟨rfl, HF2.out⟩

end Go.Proofs.Ytpecbhimnpjkdaa
