/- QueuePlays walked: it answers true. -/
import Derived.Test.YtolonoabipnpfaaQStep
namespace Go.Proofs.Ytolonoabipnpfaa
open Go.RowKit Go.Sb

/-- The first loop: so many pairs stand. -/
def PlRel1 (w : World) (bd : Nat) (i : Value) (wr : World) : Prop :=
  ∃ P lv ks, i = .int .i64 (ks.length : Int) ∧ ks.length ≤ 2 ∧ Desk w wr bd P 0 lv (.slice none 0 0) ks []
/-- The script's loop. -/
def PlRel2 (w : World) (bd ln : Nat) (i : Value) (wr : World) : Prop :=
  ∃ (k : Nat) (P : List Pr) (lv kv : Value) (ks : List (Nat × Nat)) (kk : List (Nat × Nat × Nat)), i = .int .i64 (k : Int) ∧ k ≤ ln ∧ Desk w wr bd P k lv kv ks kk ∧ 1 ≤ ks.length
/-- The last loop. -/
def PlRel3 (w : World) (bd : Nat) (P : List Pr) (N : Int) (lv kv : Value) (ks : List (Nat × Nat)) (kk : List (Nat × Nat × Nat)) (i : Value) (wr : World) : Prop :=
  ∃ k : Nat, i = .int .i64 (k : Int) ∧ k ≤ ks.length ∧ Desk w wr bd P N lv kv ks kk

/-- A new pair. -/
theorem PRep.made {w3 : World} {bq bm B : Nat} (hq : QRep 93 96 (fun k => B ≤ k) w3 bq 0 [] bm) (hB : B ≤ w3.heap.size) :
    PRep (w3.alloc (.cells #[.slice none 0 0, .slice none 0 0, .int .i64 0] 29)) ⟨bq, bm, w3.heap.size, .slice none 0 0, .slice none 0 0, 0, [], []⟩ ∧ ∀ k, Pr.foot ⟨bq, bm, w3.heap.size, .slice none 0 0, .slice none 0 0, 0, [], []⟩ k → B ≤ k := by
  have hf : Fr (fun _ => False) w3 (w3.alloc (.cells #[.slice none 0 0, .slice none 0 0, .int .i64 0] 29)) := (Fr.refl _ w3).alloc _
  refine ⟨⟨hq.exact.fr hf (fun _ _ _ h => h), ⟨heap_alloc_eq _ _, Own.nil _ _ _ _, Own.nil _ _ _ _, (fun k h => by cases h), .inl rfl⟩, rfl, Int.le_refl 0, by simp, by simp⟩, ?_⟩
  rintro k (hk | hk | hk | hk)
  · exact hq.foot_in k hk
  · rw [hk]; exact hB
  · cases hk
  · cases hk

set_option maxRecDepth 100000 in
set_option maxHeartbeats 4000000 in
theorem plays_any (la : Option Addr) (lb lo ln lc : Nat) (th : Nat → Int × Int × Int × Int) (w : World) (hla : 0 < ln → la = some ⟨lb, lo, none⟩) (hlm : ln ≤ 4398046510976)
    (hcell : ∀ i, i < ln → w.cell? ⟨lb, lo + i * 4, none⟩ = some (.int .i64 (th i).1) ∧ w.cell? ⟨lb, lo + i * 4 + 1, none⟩ = some (.int .i64 (th i).2.1) ∧ w.cell? ⟨lb, lo + i * 4 + 2, none⟩ = some (.int .i64 (th i).2.2.1) ∧ w.cell? ⟨lb, lo + i * 4 + 3, none⟩ = some (.int .i64 (th i).2.2.2))
    (hrange : ∀ i, i < ln → (-9223372036854775808 ≤ (th i).2.1 ∧ (th i).2.1 ≤ 9223372036854775807) ∧ (-9223372036854775808 ≤ (th i).2.2.1 ∧ (th i).2.2.1 ≤ 9223372036854775807)) :
    Calls Try.prog 5 #[.slice la ln lc] w fun e w' => e = .returned (.bool true) ∧ Fr (fun _ => False) w w' := by
  have HLA := Lib.hid hla
  have HC := Lib.hid hcell
  have HRG := Lib.hid hrange
  clear hla hcell hrange
  go_enter Try.func5, Try.ntmps5
  go_wp2_with (fail)
  refine (shown_any _).mono ?_
  rintro e w1 ⟨rfl, hf1⟩
  have HF1 := Lib.hid hf1
  have hs1 := hf1.size
  clear hf1
  go_wp2_with (fail)
  have hdesk : Desk w (w1.alloc (.cells #[.slice none 0 0, .slice none 0 0] 58)) w1.heap.size [] 0 (.slice none 0 0) (.slice none 0 0) [] [] :=
    ⟨Bank.nil _ _ _, heap_alloc_eq _ _, hs1, Own.nil _ _ _ _, OwnO.nil _ _ _ _, by simp, by simp, by simp, by simp, HF1.out.alloc _⟩
  have HDK := Lib.hid hdesk
  clear hdesk
  generalize hw2 : w1.alloc (.cells #[.slice none 0 0, .slice none 0 0] 58) = w2 at *
  generalize hbd : w1.heap.size = bd at *
  clear hw2
  go_loopw [5, 6] (fun i _ wr => PlRel1 w bd i wr) (fun i _ _ => 2 - (intOf i).toNat)
  case atStart => exact ⟨[], _, [], rfl, by simp, HDK.out⟩
  case round =>
    obtain ⟨P, lv, ks, rfl, hk2, hd⟩ := hrel
    have HD := Lib.hid hd
    clear hd
    by_cases hlt : ks.length < 2
    · go_wp2_with (fail)
      refine (QI.new_any (fun k => wr.heap.size ≤ k) wr (fun k h => h)).mono ?_
      rintro e w3 ⟨rfl, hq3, hf3⟩
      have HQ3 := Lib.hid hq3
      have HF3 := Lib.hid hf3
      clear hq3 hf3
      have hs3 := HF3.out.size
      obtain ⟨hpm, hpf⟩ := PRep.made HQ3.out hs3
      have HD3 := Lib.hid (HD.out.stay HF3.out (Int.le_refl 0))
      have hf4 : Fr (fun _ => False) w3 (w3.alloc (.cells #[.slice none 0 0, .slice none 0 0, .int .i64 0] 29)) := (Fr.refl _ w3).alloc _
      have HD4 := Lib.hid (HD.out.more (HF3.out.trans hf4 (fun _ _ h => h)) hpm (Int.le_refl 0) hpf)
      clear hpm hpf hf4
      generalize hbq : wr.heap.size + 1 = bq at *
      generalize hbm : wr.heap.size = bm at *
      have d0 : w3.cell? ⟨bd, 0, none⟩ = some lv := cell_is HD3.out.head 0 rfl
      have hoa := (HD4.out.l.alloc (.cells #[.pointer (some ⟨bq, 0, none⟩), .pointer (some ⟨w3.heap.size, 0, none⟩)] 60))
      have hsrc := src_pc (w3.alloc (.cells #[.slice none 0 0, .slice none 0 0, .int .i64 0] 29)) (bq, w3.heap.size) (w3.heap.size + 1) (by simp)
      have hfa : Fr (fun _ => False) (w3.alloc (.cells #[.slice none 0 0, .slice none 0 0, .int .i64 0] 29)) ((w3.alloc (.cells #[.slice none 0 0, .slice none 0 0, .int .i64 0] 29)).alloc (.cells #[.pointer (some ⟨bq, 0, none⟩), .pointer (some ⟨w3.heap.size, 0, none⟩)] 60)) := (Fr.refl _ _).alloc _
      have hha := hfa.get HD4.out.head id
      have hno := own_nez hha (by decide) hoa
      have hkey : (bq, w3.heap.size) ∈ (P ++ [(⟨bq, bm, w3.heap.size, .slice none 0 0, .slice none 0 0, 0, [], []⟩ : Pr)]).map key := by simp [key]
      have HKEY := Lib.hid hkey
      have HFA := Lib.hid hfa
      have hbdl := lt_of_heap HD3.out.head
      clear hkey hfa
      go_wp2_with (at_builtin; refine wpList_append_Own _ rfl _ _ 55 rfl 60 (.agg #[.pointer none, .pointer none]) 2 16 Try.underlying55 info60 rfl (by decide) lv ks.length (ks.flatMap pc) rfl hoa (.slice (some ⟨w3.heap.size + 1, 0, none⟩) 1 1) 1 (pc (bq, w3.heap.size)) rfl hsrc (by unfold maxLen; omega) (by omega) ?_; intro v5 w5 hv5 hf5 hn5 hd5; have hh5 := hf5.get hha hno; have hc5 : w5.cell? ⟨bd, 0, none⟩ = some lv := cell_is hh5 0 rfl; have hz5 := frozen_of hh5 0; obtain ⟨g5, k5, rfl, _, _⟩ := hv5.some (by omega); have HV5 := Lib.hid hv5; have HF5 := Lib.hid hf5; clear hv5 hf5 hn5 hd5 hh5 hoa hsrc hha hno)
      refine ⟨⟨_, _, ks ++ [(bq, w3.heap.size)], by simp, by simp; omega, HD4.out.pushed HFA.out HV5.out HF5.out (by omega) HKEY.out⟩, ?_⟩
      simp [intOf]
      omega
    · have hk2' : ks.length = 2 := by omega
      have HK2 := Lib.hid hk2'
      clear hk2'
      go_wp2_with (fail)
      go_loopw [7, 8] (fun i _ wr => PlRel2 w bd ln i wr) (fun i _ _ => ln - (intOf i).toNat)
      case atStart => exact ⟨0, P, lv, _, ks, [], rfl, Nat.zero_le _, HD.out, by have := HK2.out; omega⟩
      case round =>
        rename World => wq
        obtain ⟨k, P', lv', kv', ks', kk', rfl, hkl, hd, h1⟩ := hrel
        have HD' := Lib.hid hd
        clear hd
        by_cases hlt2 : k < ln
        · obtain rfl := HLA.out (by omega)
          obtain ⟨hc0, hc1, hc2, hc3⟩ := HC.out k hlt2
          have e0 := cell_fr HD'.out.fr hc0 id
          have e1 := cell_fr HD'.out.fr hc1 id
          have e2 := cell_fr HD'.out.fr hc2 id
          have e3 := cell_fr HD'.out.fr hc3 id
          have hrg := HRG.out k hlt2
          clear hc0 hc1 hc2 hc3
          generalize th k = q at *
          obtain ⟨kd, on, n, x⟩ := q
          dsimp only at e0 e1 e2 e3 hrg
          have HST := Lib.hid (step_desk w wq bd P' k lv' kv' ks' kk' HD'.out h1 (by omega) kd on n x hrg.1.1 hrg.1.2 hrg.2.1 hrg.2.2)
          clear hrg
          go_wp2_with (fail)
          refine HST.out.mono ?_
          rintro e w3 ⟨rfl, P2, lv2, kv2, ks2, kk2, h2, h12⟩
          have H2 := Lib.hid h2
          clear h2 HST
          go_wp2_with (fail)
          refine ⟨⟨k + 1, P2, lv2, kv2, ks2, kk2, by simp, hlt2, by simpa using H2.out, h12⟩, ?_⟩
          simp [intOf]
          omega
        · have hkn : k = ln := by omega
          subst hkn
          go_wp2_with (fail)
          go_loopw [9, 10] (fun i _ wr => PlRel3 w bd P' k lv' kv' ks' kk' i wr) (fun i _ _ => ks'.length - (intOf i).toNat)
          case atStart => exact ⟨0, rfl, Nat.zero_le _, HD'.out⟩
          case round =>
            rename World => wp
            obtain ⟨j, rfl, hj, hd⟩ := hrel
            have H3 := Lib.hid hd
            clear hd
            obtain ⟨g, cap, rfl, hcap1, hcap2⟩ := H3.out.l.some (by omega)
            have d0 : wp.cell? ⟨bd, 0, none⟩ = some (.slice (some ⟨g, 0, none⟩) ks'.length cap) := cell_is H3.out.head 0 rfl
            have hll := H3.out.ll
            by_cases hlt3 : j < ks'.length
            · obtain ⟨⟨qx, rx⟩, hkx⟩ : ∃ y, ks'[j]? = some y := ⟨_, List.getElem?_eq_getElem hlt3⟩
              obtain ⟨hx0, hx1⟩ := pc_at ks' j _ hkx
              obtain ⟨i, p, hi, hq1, hq2⟩ := key_at (H3.out.ks_in _ (List.mem_of_getElem? hkx))
              dsimp only at hq1 hq2
              subst hq1
              subst hq2
              have HP := Lib.hid (H3.out.bank.rep i p hi)
              have hpg := H3.out.bank.le i p hi
              have hlens := HP.out.lens
              obtain ⟨a, c, a', c', htv, hsv⟩ := HP.out.r.shapes
              have u0 : wp.cell? ⟨p.br, 0, none⟩ = some (.slice a p.xs.length c) := (show wp.cell? ⟨p.br, 0, none⟩ = some p.tv from cell_is HP.out.r.head 0 rfl).trans (by rw [htv])
              have HCC : Hid (∀ w', Fr (fun _ => False) wp w' → w'.cell? ⟨bd, 0, none⟩ = some (.slice (some ⟨g, 0, none⟩) ks'.length cap) ∧ w'.cell? ⟨g, j * 2, none⟩ = some (.pointer (some ⟨p.bq, 0, none⟩)) ∧ w'.cell? ⟨g, j * 2 + 1, none⟩ = some (.pointer (some ⟨p.br, 0, none⟩)) ∧ w'.cell? ⟨p.br, 0, none⟩ = some (.slice a p.xs.length c)) :=
                Lib.hid (fun w' hf => ⟨cell_fr hf d0 id, cell_fr hf (H3.out.l.cell rfl hx0) id, cell_fr hf (H3.out.l.cell rfl hx1) id, cell_fr hf u0 id⟩)
              clear hx0 hx1 hkx hi htv hsv u0
              go_wp2_with (fail)
              refine wp_region_held_drew (S := fun w' => Fr (fun _ => False) wp w') (by kernel_rfl) ((Fr.refl _ wp).drew) (fun hS1 => ?_)
              refine wpAnyH_take (i := 0) (v := (.pointer (some ⟨bd, 0, none⟩))) rfl (by kernel_rfl) (by kernel_rfl) (by kernel_rfl) (fun _ _ _ h => h) (Or.inl ⟨by rfl, fun w' hS => by obtain ⟨r0, r1, r2, r3⟩ := HCC.out w' hS; go_simp⟩) hS1 ?_
              try simp only [Act.put, List.getElem_toArray, List.getElem_cons_zero, List.setIfInBounds_toArray, List.set_cons_zero, List.set_cons_succ]
              refine wpAnyH_take (i := 1) (v := (.pointer (some ⟨bd, 0, none⟩))) rfl (by kernel_rfl) (by kernel_rfl) (by kernel_rfl) (fun _ _ _ h => h) (Or.inl ⟨by rfl, fun w' hS => by obtain ⟨r0, r1, r2, r3⟩ := HCC.out w' hS; go_simp⟩) hS1 ?_
              try simp only [Act.put, List.getElem_toArray, List.getElem_cons_zero, List.getElem_cons_succ, List.setIfInBounds_toArray, List.set_cons_zero, List.set_cons_succ]
              refine wpAnyH_take (i := 2) (v := (.pointer (some ⟨bd, 0, none⟩))) rfl (by kernel_rfl) (by kernel_rfl) (by kernel_rfl) (fun _ _ _ h => h) (Or.inl ⟨by rfl, fun w' hS => by obtain ⟨r0, r1, r2, r3⟩ := HCC.out w' hS; go_simp⟩) hS1 ?_
              try simp only [Act.put, List.getElem_toArray, List.getElem_cons_zero, List.getElem_cons_succ, List.setIfInBounds_toArray, List.set_cons_zero, List.set_cons_succ]
              refine wpAnyH_take (i := 3) (v := (.slice (some ⟨g, 0, none⟩) ks'.length cap)) rfl (by kernel_rfl) (by kernel_rfl) (by kernel_rfl) (fun _ _ _ h => h) (Or.inl ⟨by rfl, fun w' hS => by obtain ⟨r0, r1, r2, r3⟩ := HCC.out w' hS; go_simp⟩) hS1 ?_
              try simp only [Act.put, List.getElem_toArray, List.getElem_cons_zero, List.getElem_cons_succ, List.setIfInBounds_toArray, List.set_cons_zero, List.set_cons_succ]
              refine wpAnyH_take (i := 4) (v := (.int .i64 (j : Int))) rfl (by kernel_rfl) (by kernel_rfl) (by kernel_rfl) (fun _ _ _ h => h) (Or.inl ⟨by rfl, fun w' hS => by obtain ⟨r0, r1, r2, r3⟩ := HCC.out w' hS; go_simp⟩) hS1 ?_
              try simp only [Act.put, List.getElem_toArray, List.getElem_cons_zero, List.getElem_cons_succ, List.setIfInBounds_toArray, List.set_cons_zero, List.set_cons_succ]
              refine wpAnyH_take (i := 5) (v := (.pointer (some ⟨g, j * 2, none⟩))) rfl (by kernel_rfl) (by kernel_rfl) (by kernel_rfl) (fun _ _ _ h => h) (Or.inl ⟨by rfl, fun w' hS => by obtain ⟨r0, r1, r2, r3⟩ := HCC.out w' hS; go_simp⟩) hS1 ?_
              try simp only [Act.put, List.getElem_toArray, List.getElem_cons_zero, List.getElem_cons_succ, List.setIfInBounds_toArray, List.set_cons_zero, List.set_cons_succ]
              refine wpAnyH_take (i := 6) (v := (.pointer (some ⟨g, j * 2, none⟩))) rfl (by kernel_rfl) (by kernel_rfl) (by kernel_rfl) (fun _ _ _ h => h) (Or.inl ⟨by rfl, fun w' hS => by obtain ⟨r0, r1, r2, r3⟩ := HCC.out w' hS; go_simp⟩) hS1 ?_
              try simp only [Act.put, List.getElem_toArray, List.getElem_cons_zero, List.getElem_cons_succ, List.setIfInBounds_toArray, List.set_cons_zero, List.set_cons_succ]
              refine wpAnyH_take (i := 7) (v := (.pointer (some ⟨p.bq, 0, none⟩))) rfl (by kernel_rfl) (by kernel_rfl) (by kernel_rfl) (fun _ _ _ h => h) (Or.inl ⟨by rfl, fun w' hS => by obtain ⟨r0, r1, r2, r3⟩ := HCC.out w' hS; go_simp⟩) hS1 ?_
              try simp only [Act.put, List.getElem_toArray, List.getElem_cons_zero, List.getElem_cons_succ, List.setIfInBounds_toArray, List.set_cons_zero, List.set_cons_succ]
              refine wpAnyH_take (i := 9) (v := (.pointer (some ⟨bd, 0, none⟩))) rfl (by kernel_rfl) (by kernel_rfl) (by kernel_rfl) (fun _ _ _ h => h) (Or.inl ⟨by rfl, fun w' hS => by obtain ⟨r0, r1, r2, r3⟩ := HCC.out w' hS; go_simp⟩) hS1 ?_
              try simp only [Act.put, List.getElem_toArray, List.getElem_cons_zero, List.getElem_cons_succ, List.setIfInBounds_toArray, List.set_cons_zero, List.set_cons_succ]
              refine wpAnyH_take (i := 10) (v := (.pointer (some ⟨bd, 0, none⟩))) rfl (by kernel_rfl) (by kernel_rfl) (by kernel_rfl) (fun _ _ _ h => h) (Or.inl ⟨by rfl, fun w' hS => by obtain ⟨r0, r1, r2, r3⟩ := HCC.out w' hS; go_simp⟩) hS1 ?_
              try simp only [Act.put, List.getElem_toArray, List.getElem_cons_zero, List.getElem_cons_succ, List.setIfInBounds_toArray, List.set_cons_zero, List.set_cons_succ]
              refine wpAnyH_take (i := 11) (v := (.pointer (some ⟨bd, 0, none⟩))) rfl (by kernel_rfl) (by kernel_rfl) (by kernel_rfl) (fun _ _ _ h => h) (Or.inl ⟨by rfl, fun w' hS => by obtain ⟨r0, r1, r2, r3⟩ := HCC.out w' hS; go_simp⟩) hS1 ?_
              try simp only [Act.put, List.getElem_toArray, List.getElem_cons_zero, List.getElem_cons_succ, List.setIfInBounds_toArray, List.set_cons_zero, List.set_cons_succ]
              refine wpAnyH_take (i := 12) (v := (.slice (some ⟨g, 0, none⟩) ks'.length cap)) rfl (by kernel_rfl) (by kernel_rfl) (by kernel_rfl) (fun _ _ _ h => h) (Or.inl ⟨by rfl, fun w' hS => by obtain ⟨r0, r1, r2, r3⟩ := HCC.out w' hS; go_simp⟩) hS1 ?_
              try simp only [Act.put, List.getElem_toArray, List.getElem_cons_zero, List.getElem_cons_succ, List.setIfInBounds_toArray, List.set_cons_zero, List.set_cons_succ]
              refine wpAnyH_take (i := 13) (v := (.int .i64 (j : Int))) rfl (by kernel_rfl) (by kernel_rfl) (by kernel_rfl) (fun _ _ _ h => h) (Or.inl ⟨by rfl, fun w' hS => by obtain ⟨r0, r1, r2, r3⟩ := HCC.out w' hS; go_simp⟩) hS1 ?_
              try simp only [Act.put, List.getElem_toArray, List.getElem_cons_zero, List.getElem_cons_succ, List.setIfInBounds_toArray, List.set_cons_zero, List.set_cons_succ]
              refine wpAnyH_take (i := 14) (v := (.pointer (some ⟨g, j * 2, none⟩))) rfl (by kernel_rfl) (by kernel_rfl) (by kernel_rfl) (fun _ _ _ h => h) (Or.inl ⟨by rfl, fun w' hS => by obtain ⟨r0, r1, r2, r3⟩ := HCC.out w' hS; go_simp⟩) hS1 ?_
              try simp only [Act.put, List.getElem_toArray, List.getElem_cons_zero, List.getElem_cons_succ, List.setIfInBounds_toArray, List.set_cons_zero, List.set_cons_succ]
              refine wpAnyH_take (i := 15) (v := (.pointer (some ⟨g, j * 2 + 1, none⟩))) rfl (by kernel_rfl) (by kernel_rfl) (by kernel_rfl) (fun _ _ _ h => h) (Or.inl ⟨by rfl, fun w' hS => by obtain ⟨r0, r1, r2, r3⟩ := HCC.out w' hS; go_simp⟩) hS1 ?_
              try simp only [Act.put, List.getElem_toArray, List.getElem_cons_zero, List.getElem_cons_succ, List.setIfInBounds_toArray, List.set_cons_zero, List.set_cons_succ]
              refine wpAnyH_take (i := 16) (v := (.pointer (some ⟨p.br, 0, none⟩))) rfl (by kernel_rfl) (by kernel_rfl) (by kernel_rfl) (fun _ _ _ h => h) (Or.inl ⟨by rfl, fun w' hS => by obtain ⟨r0, r1, r2, r3⟩ := HCC.out w' hS; go_simp⟩) hS1 ?_
              try simp only [Act.put, List.getElem_toArray, List.getElem_cons_zero, List.getElem_cons_succ, List.setIfInBounds_toArray, List.set_cons_zero, List.set_cons_succ]
              refine wpAnyH_ready (rs := [8]) (by kernel_rfl) (by simp) ?_
              refine AllReadyH.cons rfl (fun K hK => ?_) AllReadyH.nil
              rw [if_pos (by rfl)]
              go_simp
              refine (QI.all_any p.bq wp.drew).mono ?_
              rintro e w4 ⟨rfl, hw4⟩
              have hf4 : Fr (fun _ => False) wp w4 := by rw [hw4]; exact ((Fr.refl _ wp).drew).alloc _
              have hbn : w4.heap[wp.drew.heap.size]? = some (.cells #[.pointer (some ⟨p.bq, 0, none⟩)] 45 (0, 0)) := by rw [hw4]; exact heap_alloc_eq _ _
              generalize wp.drew.heap.size = Bn at *
              refine hK.out _ _ hf4 (fun hS2 => ?_)
              clear hK K hw4
              try simp only [Act.put, List.getElem_toArray, List.getElem_cons_zero, List.getElem_cons_succ, List.setIfInBounds_toArray, List.set_cons_zero, List.set_cons_succ]
              refine wpAnyH_ready (rs := [17]) (by kernel_rfl) (by simp) ?_
              refine AllReadyH.cons rfl (fun K hK => ?_) AllReadyH.nil
              rw [if_pos (by rfl)]
              go_simp
              refine (whole_any w4 p Bn (HP.out.fr hf4 (fun _ _ h => h)) (by omega) hbn).mono ?_
              rintro e w5 ⟨rfl, hf5⟩
              have hf45 := hf4.trans hf5 (fun _ _ h => h)
              refine hK.out _ _ hf45 (fun hS3 => ?_)
              have HF5 := Lib.hid hf45
              clear hK K hf4 hf5 hf45 hbn
              try simp only [Act.put, List.getElem_toArray, List.getElem_cons_zero, List.getElem_cons_succ, List.setIfInBounds_toArray, List.set_cons_zero, List.set_cons_succ]
              refine wpAnyH_take (i := 18) (v := (.bool true)) rfl (by kernel_rfl) (by kernel_rfl) (by kernel_rfl) (fun _ _ _ h => h) (Or.inl ⟨by rfl, fun w' hS => by go_simp⟩) hS3 ?_
              try simp only [Act.put, List.getElem_toArray, List.getElem_cons_zero, List.getElem_cons_succ, List.setIfInBounds_toArray, List.set_cons_zero, List.set_cons_succ]
              refine wpAnyH_done (by kernel_rfl) ?_ _
              go_wp2_with (fail)
              refine wp_region_held_drew (S := fun w' => Fr (fun _ => False) wp w') (by kernel_rfl) (HF5.out.drew) (fun hS4 => ?_)
              refine wpAnyH_take (i := 0) (v := (.bool true)) rfl (by kernel_rfl) (by kernel_rfl) (by kernel_rfl) (fun _ _ _ h => h) (Or.inl ⟨by rfl, fun w' hS => by obtain ⟨r0, r1, r2, r3⟩ := HCC.out w' hS; go_simp⟩) hS4 ?_
              try simp only [Act.put, List.getElem_toArray, List.getElem_cons_zero, List.setIfInBounds_toArray, List.set_cons_zero, List.set_cons_succ]
              refine wpAnyH_take (i := 1) (v := (.bool false)) rfl (by kernel_rfl) (by kernel_rfl) (by kernel_rfl) (fun _ _ _ h => h) (Or.inl ⟨by rfl, fun w' hS => by obtain ⟨r0, r1, r2, r3⟩ := HCC.out w' hS; go_simp⟩) hS4 ?_
              try simp only [Act.put, List.getElem_toArray, List.getElem_cons_zero, List.getElem_cons_succ, List.setIfInBounds_toArray, List.set_cons_zero, List.set_cons_succ]
              refine wpAnyH_take (i := 2) (v := (.bool false)) rfl (by kernel_rfl) (by kernel_rfl) (by kernel_rfl) (fun _ _ _ h => h) (Or.inl ⟨by rfl, fun w' hS => by obtain ⟨r0, r1, r2, r3⟩ := HCC.out w' hS; go_simp⟩) hS4 ?_
              try simp only [Act.put, List.getElem_toArray, List.getElem_cons_zero, List.getElem_cons_succ, List.setIfInBounds_toArray, List.set_cons_zero, List.set_cons_succ]
              refine wpAnyH_take (i := 3) (v := (.pointer (some ⟨bd, 0, none⟩))) rfl (by kernel_rfl) (by kernel_rfl) (by kernel_rfl) (fun _ _ _ h => h) (Or.inl ⟨by rfl, fun w' hS => by obtain ⟨r0, r1, r2, r3⟩ := HCC.out w' hS; go_simp⟩) hS4 ?_
              try simp only [Act.put, List.getElem_toArray, List.getElem_cons_zero, List.getElem_cons_succ, List.setIfInBounds_toArray, List.set_cons_zero, List.set_cons_succ]
              refine wpAnyH_take (i := 4) (v := (.pointer (some ⟨bd, 0, none⟩))) rfl (by kernel_rfl) (by kernel_rfl) (by kernel_rfl) (fun _ _ _ h => h) (Or.inl ⟨by rfl, fun w' hS => by obtain ⟨r0, r1, r2, r3⟩ := HCC.out w' hS; go_simp⟩) hS4 ?_
              try simp only [Act.put, List.getElem_toArray, List.getElem_cons_zero, List.getElem_cons_succ, List.setIfInBounds_toArray, List.set_cons_zero, List.set_cons_succ]
              refine wpAnyH_take (i := 5) (v := (.pointer (some ⟨bd, 0, none⟩))) rfl (by kernel_rfl) (by kernel_rfl) (by kernel_rfl) (fun _ _ _ h => h) (Or.inl ⟨by rfl, fun w' hS => by obtain ⟨r0, r1, r2, r3⟩ := HCC.out w' hS; go_simp⟩) hS4 ?_
              try simp only [Act.put, List.getElem_toArray, List.getElem_cons_zero, List.getElem_cons_succ, List.setIfInBounds_toArray, List.set_cons_zero, List.set_cons_succ]
              refine wpAnyH_take (i := 6) (v := (.slice (some ⟨g, 0, none⟩) ks'.length cap)) rfl (by kernel_rfl) (by kernel_rfl) (by kernel_rfl) (fun _ _ _ h => h) (Or.inl ⟨by rfl, fun w' hS => by obtain ⟨r0, r1, r2, r3⟩ := HCC.out w' hS; go_simp⟩) hS4 ?_
              try simp only [Act.put, List.getElem_toArray, List.getElem_cons_zero, List.getElem_cons_succ, List.setIfInBounds_toArray, List.set_cons_zero, List.set_cons_succ]
              refine wpAnyH_take (i := 7) (v := (.int .i64 (j : Int))) rfl (by kernel_rfl) (by kernel_rfl) (by kernel_rfl) (fun _ _ _ h => h) (Or.inl ⟨by rfl, fun w' hS => by obtain ⟨r0, r1, r2, r3⟩ := HCC.out w' hS; go_simp⟩) hS4 ?_
              try simp only [Act.put, List.getElem_toArray, List.getElem_cons_zero, List.getElem_cons_succ, List.setIfInBounds_toArray, List.set_cons_zero, List.set_cons_succ]
              refine wpAnyH_take (i := 8) (v := (.pointer (some ⟨g, j * 2, none⟩))) rfl (by kernel_rfl) (by kernel_rfl) (by kernel_rfl) (fun _ _ _ h => h) (Or.inl ⟨by rfl, fun w' hS => by obtain ⟨r0, r1, r2, r3⟩ := HCC.out w' hS; go_simp⟩) hS4 ?_
              try simp only [Act.put, List.getElem_toArray, List.getElem_cons_zero, List.getElem_cons_succ, List.setIfInBounds_toArray, List.set_cons_zero, List.set_cons_succ]
              refine wpAnyH_take (i := 9) (v := (.pointer (some ⟨g, j * 2, none⟩))) rfl (by kernel_rfl) (by kernel_rfl) (by kernel_rfl) (fun _ _ _ h => h) (Or.inl ⟨by rfl, fun w' hS => by obtain ⟨r0, r1, r2, r3⟩ := HCC.out w' hS; go_simp⟩) hS4 ?_
              try simp only [Act.put, List.getElem_toArray, List.getElem_cons_zero, List.getElem_cons_succ, List.setIfInBounds_toArray, List.set_cons_zero, List.set_cons_succ]
              refine wpAnyH_take (i := 10) (v := (.pointer (some ⟨p.bq, 0, none⟩))) rfl (by kernel_rfl) (by kernel_rfl) (by kernel_rfl) (fun _ _ _ h => h) (Or.inl ⟨by rfl, fun w' hS => by obtain ⟨r0, r1, r2, r3⟩ := HCC.out w' hS; go_simp⟩) hS4 ?_
              try simp only [Act.put, List.getElem_toArray, List.getElem_cons_zero, List.getElem_cons_succ, List.setIfInBounds_toArray, List.set_cons_zero, List.set_cons_succ]
              refine wpAnyH_take (i := 12) (v := (.pointer (some ⟨bd, 0, none⟩))) rfl (by kernel_rfl) (by kernel_rfl) (by kernel_rfl) (fun _ _ _ h => h) (Or.inl ⟨by rfl, fun w' hS => by obtain ⟨r0, r1, r2, r3⟩ := HCC.out w' hS; go_simp⟩) hS4 ?_
              try simp only [Act.put, List.getElem_toArray, List.getElem_cons_zero, List.getElem_cons_succ, List.setIfInBounds_toArray, List.set_cons_zero, List.set_cons_succ]
              refine wpAnyH_take (i := 13) (v := (.pointer (some ⟨bd, 0, none⟩))) rfl (by kernel_rfl) (by kernel_rfl) (by kernel_rfl) (fun _ _ _ h => h) (Or.inl ⟨by rfl, fun w' hS => by obtain ⟨r0, r1, r2, r3⟩ := HCC.out w' hS; go_simp⟩) hS4 ?_
              try simp only [Act.put, List.getElem_toArray, List.getElem_cons_zero, List.getElem_cons_succ, List.setIfInBounds_toArray, List.set_cons_zero, List.set_cons_succ]
              refine wpAnyH_take (i := 14) (v := (.pointer (some ⟨bd, 0, none⟩))) rfl (by kernel_rfl) (by kernel_rfl) (by kernel_rfl) (fun _ _ _ h => h) (Or.inl ⟨by rfl, fun w' hS => by obtain ⟨r0, r1, r2, r3⟩ := HCC.out w' hS; go_simp⟩) hS4 ?_
              try simp only [Act.put, List.getElem_toArray, List.getElem_cons_zero, List.getElem_cons_succ, List.setIfInBounds_toArray, List.set_cons_zero, List.set_cons_succ]
              refine wpAnyH_take (i := 15) (v := (.slice (some ⟨g, 0, none⟩) ks'.length cap)) rfl (by kernel_rfl) (by kernel_rfl) (by kernel_rfl) (fun _ _ _ h => h) (Or.inl ⟨by rfl, fun w' hS => by obtain ⟨r0, r1, r2, r3⟩ := HCC.out w' hS; go_simp⟩) hS4 ?_
              try simp only [Act.put, List.getElem_toArray, List.getElem_cons_zero, List.getElem_cons_succ, List.setIfInBounds_toArray, List.set_cons_zero, List.set_cons_succ]
              refine wpAnyH_take (i := 16) (v := (.int .i64 (j : Int))) rfl (by kernel_rfl) (by kernel_rfl) (by kernel_rfl) (fun _ _ _ h => h) (Or.inl ⟨by rfl, fun w' hS => by obtain ⟨r0, r1, r2, r3⟩ := HCC.out w' hS; go_simp⟩) hS4 ?_
              try simp only [Act.put, List.getElem_toArray, List.getElem_cons_zero, List.getElem_cons_succ, List.setIfInBounds_toArray, List.set_cons_zero, List.set_cons_succ]
              refine wpAnyH_take (i := 17) (v := (.pointer (some ⟨g, j * 2, none⟩))) rfl (by kernel_rfl) (by kernel_rfl) (by kernel_rfl) (fun _ _ _ h => h) (Or.inl ⟨by rfl, fun w' hS => by obtain ⟨r0, r1, r2, r3⟩ := HCC.out w' hS; go_simp⟩) hS4 ?_
              try simp only [Act.put, List.getElem_toArray, List.getElem_cons_zero, List.getElem_cons_succ, List.setIfInBounds_toArray, List.set_cons_zero, List.set_cons_succ]
              refine wpAnyH_take (i := 18) (v := (.pointer (some ⟨g, j * 2 + 1, none⟩))) rfl (by kernel_rfl) (by kernel_rfl) (by kernel_rfl) (fun _ _ _ h => h) (Or.inl ⟨by rfl, fun w' hS => by obtain ⟨r0, r1, r2, r3⟩ := HCC.out w' hS; go_simp⟩) hS4 ?_
              try simp only [Act.put, List.getElem_toArray, List.getElem_cons_zero, List.getElem_cons_succ, List.setIfInBounds_toArray, List.set_cons_zero, List.set_cons_succ]
              refine wpAnyH_take (i := 19) (v := (.pointer (some ⟨p.br, 0, none⟩))) rfl (by kernel_rfl) (by kernel_rfl) (by kernel_rfl) (fun _ _ _ h => h) (Or.inl ⟨by rfl, fun w' hS => by obtain ⟨r0, r1, r2, r3⟩ := HCC.out w' hS; go_simp⟩) hS4 ?_
              try simp only [Act.put, List.getElem_toArray, List.getElem_cons_zero, List.getElem_cons_succ, List.setIfInBounds_toArray, List.set_cons_zero, List.set_cons_succ]
              refine wpAnyH_take (i := 20) (v := (.pointer (some ⟨p.br, 0, none⟩))) rfl (by kernel_rfl) (by kernel_rfl) (by kernel_rfl) (fun _ _ _ h => h) (Or.inl ⟨by rfl, fun w' hS => by obtain ⟨r0, r1, r2, r3⟩ := HCC.out w' hS; go_simp⟩) hS4 ?_
              try simp only [Act.put, List.getElem_toArray, List.getElem_cons_zero, List.getElem_cons_succ, List.setIfInBounds_toArray, List.set_cons_zero, List.set_cons_succ]
              refine wpAnyH_take (i := 21) (v := (.pointer (some ⟨p.br, 0, none⟩))) rfl (by kernel_rfl) (by kernel_rfl) (by kernel_rfl) (fun _ _ _ h => h) (Or.inl ⟨by rfl, fun w' hS => by obtain ⟨r0, r1, r2, r3⟩ := HCC.out w' hS; go_simp⟩) hS4 ?_
              try simp only [Act.put, List.getElem_toArray, List.getElem_cons_zero, List.getElem_cons_succ, List.setIfInBounds_toArray, List.set_cons_zero, List.set_cons_succ]
              refine wpAnyH_take (i := 22) (v := (.slice a p.xs.length c)) rfl (by kernel_rfl) (by kernel_rfl) (by kernel_rfl) (fun _ _ _ h => h) (Or.inl ⟨by rfl, fun w' hS => by obtain ⟨r0, r1, r2, r3⟩ := HCC.out w' hS; go_simp⟩) hS4 ?_
              try simp only [Act.put, List.getElem_toArray, List.getElem_cons_zero, List.getElem_cons_succ, List.setIfInBounds_toArray, List.set_cons_zero, List.set_cons_succ]
              refine wpAnyH_take (i := 23) (v := (.int .i64 (p.xs.length : Int))) rfl (by kernel_rfl) (by kernel_rfl) (by kernel_rfl) (fun _ _ _ h => h) (Or.inl ⟨by rfl, fun w' hS => by obtain ⟨r0, r1, r2, r3⟩ := HCC.out w' hS; go_simp⟩) hS4 ?_
              try simp only [Act.put, List.getElem_toArray, List.getElem_cons_zero, List.getElem_cons_succ, List.setIfInBounds_toArray, List.set_cons_zero, List.set_cons_succ]
              refine wpAnyH_ready (rs := [11]) (by kernel_rfl) (by simp) ?_
              refine AllReadyH.cons rfl (fun K hK => ?_) AllReadyH.nil
              rw [if_pos (by rfl)]
              go_simp
              refine (QI.len_any _ p.bq p.bm p.g w5.drew p.l ((HP.out.q.fr HF5.out (fun _ _ _ h => h)).drewN 1)).mono ?_
              rintro e w6 ⟨rfl, rfl⟩
              rw [hlens]
              refine hK.out _ _ hS4 (fun hS5 => ?_)
              clear hK K
              try simp only [Act.put, List.getElem_toArray, List.getElem_cons_zero, List.getElem_cons_succ, List.setIfInBounds_toArray, List.set_cons_zero, List.set_cons_succ]
              refine wpAnyH_take (i := 24) (v := (.bool false)) rfl (by kernel_rfl) (by kernel_rfl) (by kernel_rfl) (fun _ _ _ h => h) (Or.inl ⟨by rfl, fun w' hS => by go_simp⟩) hS5 ?_
              try simp only [Act.put, List.getElem_toArray, List.getElem_cons_zero, List.getElem_cons_succ, List.setIfInBounds_toArray, List.set_cons_zero, List.set_cons_succ]
              refine wpAnyH_take (i := 25) (v := (.bool false)) rfl (by kernel_rfl) (by kernel_rfl) (by kernel_rfl) (fun _ _ _ h => h) (Or.inl ⟨by rfl, fun w' hS => by go_simp⟩) hS5 ?_
              try simp only [Act.put, List.getElem_toArray, List.getElem_cons_zero, List.getElem_cons_succ, List.setIfInBounds_toArray, List.set_cons_zero, List.set_cons_succ]
              refine wpAnyH_done (by kernel_rfl) ?_ _
              have HD5 := Lib.hid (H3.out.stay HF5.out.drew (Int.le_refl _))
              go_wp2_with (fail)
              refine ⟨⟨j + 1, by simp, hlt3, HD5.out⟩, ?_⟩
              simp [intOf]
              omega
            · go_wp2_with (fail)
              go_ret
              exact ⟨rfl, H3.out.fr⟩

end Go.Proofs.Ytolonoabipnpfaa
