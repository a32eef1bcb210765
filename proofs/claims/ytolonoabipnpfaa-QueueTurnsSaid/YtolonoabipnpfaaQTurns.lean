/- THE WALK of QueueTurns: so many join, some leave, the others leave in their order. -/
import Derived.Test.YtolonoabipnpfaaQShown
import Derived.Test.YtolonoabipnpfaaBools
namespace Go.Proofs.Ytolonoabipnpfaa
open Go.RowKit Go.Sb
theorem Try.info4 : (Try.prog.info? 4).map (fun i => (i.zero, i.size, i.bytes)) = some (some (.bool false), 1, 1) := by kernel_rfl

def tv (n : Nd) : Int × Value := (n.t, n.v)
def tf (t : Nat) : Int × Value := ((t : Int), .int .i64 (1000 - (t : Int)))

/-- The first loop: so many have joined. -/
def Turn1 (n B bq bm : Nat) (w0 : World) (i : Value) (wr : World) : Prop :=
  ∃ (k : Nat) (l : List Nd), i = .int .i64 ((k : Int) + 1) ∧ k ≤ n ∧ QRep 93 96 (fun x => B ≤ x) wr bq k l bm ∧ l.map tv = (List.range' 1 k).map tf ∧ Fr (fun _ => False) w0 wr

/-- The second loop: some have left. -/
def Turn2 (n ln B bq bm bg : Nat) (w0 : World) (lf i : Value) (wr : World) : Prop :=
  ∃ (k : Nat) (l : List Nd) (bs : List Bool), i = .int .i64 (k : Int) ∧ k ≤ ln ∧ lf = .int .i64 (l.length : Int) ∧ bs.length = n + 1 ∧ QRep 93 96 (fun x => B ≤ x ∧ x ≠ bg) wr bq n l bm ∧
    l.map tv = (live bs 1 n).map tf ∧ wr.heap[bg]? = some (.cells (bools bs) 4 (0, 0)) ∧ Fr (fun _ => False) w0 wr

/-- The third loop: the others leave, the first one first. -/
def Turn3 (n B bq bm bg : Nat) (bs : List Bool) (w0 : World) (lf i : Value) (wr : World) : Prop :=
  ∃ (k : Nat) (l : List Nd), i = .int .i64 ((k : Int) + 1) ∧ k ≤ n ∧ lf = .int .i64 (l.length : Int) ∧ QRep 93 96 (fun x => B ≤ x ∧ x ≠ bg) wr bq n l bm ∧
    l.map tv = (live bs (k + 1) n).map tf ∧ wr.heap[bg]? = some (.cells (bools bs) 4 (0, 0)) ∧ Fr (fun _ => False) w0 wr

theorem tv_le {l : List Nd} {L : List Nat} {k : Nat} (h : l.map tv = L.map tf) (hL : ∀ t ∈ L, t ≤ k) : ∀ n ∈ l, n.t ≤ (k : Int) := by
  intro n hn
  have : tv n ∈ l.map tv := List.mem_map.2 ⟨n, hn, rfl⟩
  rw [h] at this
  obtain ⟨t, ht, he⟩ := List.mem_map.1 this
  have h1 := hL t ht
  have h2 : (t : Int) = n.t := congrArg Prod.fst he
  omega

theorem tv_not {l : List Nd} {L : List Nat} {t : Nat} {i : Int} (h : l.map tv = L.map tf) (hi : i = (t : Int)) (ht : t ∉ L) : i ∉ l.map Nd.t := by
  intro hin
  obtain ⟨n, hn, rfl⟩ := List.mem_map.1 hin
  have : tv n ∈ l.map tv := List.mem_map.2 ⟨n, hn, rfl⟩
  rw [h] at this
  obtain ⟨u, hu, he⟩ := List.mem_map.1 this
  have h2 : (u : Int) = n.t := congrArg Prod.fst he
  have : u = t := by omega
  exact ht (this ▸ hu)

theorem tv_split {l : List Nd} {L : List Nat} {t : Nat} {i x : Int} (h : l.map tv = L.map tf) (hn : L.Nodup) (hi : i = (t : Int)) (hx : x = 1000 - i) (ht : t ∈ L) :
    ∃ us b vs, l = us ++ ⟨b, i, .int .i64 x⟩ :: vs ∧ (us ++ vs).map tv = (L.filter (fun x => x != t)).map tf ∧ ((l.length : Int) - 1 = ((us ++ vs).length : Int)) := by
  obtain ⟨Lu, Lv, rfl⟩ := List.append_of_mem ht
  rw [List.map_append, List.map_cons] at h
  obtain ⟨us, r, rfl, h1, h2⟩ := List.map_eq_append_iff.1 h
  obtain ⟨nd, vs, rfl, h3, h4⟩ := List.map_eq_cons_iff.1 h2
  obtain ⟨b, t', v'⟩ := nd
  have e1 : t' = (t : Int) := congrArg Prod.fst h3
  have e2 : v' = .int .i64 (1000 - (t : Int)) := congrArg Prod.snd h3
  subst e1 e2 hx hi
  refine ⟨us, b, vs, rfl, ?_, by simp; omega⟩
  rw [filter_ne rfl hn, List.map_append, List.map_append, h1, h4]

set_option maxRecDepth 100000 in
set_option maxHeartbeats 4000000 in
theorem turns_any (many : Int) (la : Option Addr) (lb lo ln lc : Nat) (zs : List Int) (w : World) (hm0 : -9223372036854775808 ≤ many) (hm1 : many ≤ 9223372036854775807)
    (hla : 0 < ln → la = some ⟨lb, lo, none⟩) (hlm : ln ≤ 9223372036854775807)
    (hcell : ∀ i, i < ln → w.cell? ⟨lb, lo + i, none⟩ = some (.int .i64 (zs.getD i 0)) ∧ -9223372036854775808 ≤ zs.getD i 0 ∧ zs.getD i 0 ≤ 9223372036854775807) :
    Calls Try.prog 4 #[.int .i64 many, .slice la ln lc] w fun e w' => e = .returned (.bool true) ∧ Fr (fun _ => False) w w' := by
  have HLA := Lib.hid hla
  have HC := Lib.hid hcell
  clear hla hcell
  go_enter Try.func4, Try.ntmps4
  go_wp2_with (fail)
  refine (shown_any w).mono ?_
  rintro e w1 ⟨rfl, hf1⟩
  have HF1 := Lib.hid hf1
  clear hf1
  go_wp2_with (fail)
  refine (QI.new_any (fun k => w.heap.size ≤ k) w1 (fun k h => Nat.le_trans HF1.out.size h)).mono ?_
  rintro e w2 ⟨rfl, hq2, hf2⟩
  have HF2 := Lib.hid (HF1.out.trans hf2 (fun _ _ h => h))
  have HQ2 := Lib.hid hq2
  clear hq2 hf2
  generalize w1.heap.size + 1 = bq at *
  generalize w1.heap.size = bm at *
  go_wp2_with (fail)
  refine (pick_any many 300 w2 hm0 hm1 (by decide)).mono ?_
  rintro e w3 ⟨n0, rfl, hn, _, rfl⟩
  obtain ⟨hn0, hn1⟩ := hn (by decide)
  obtain ⟨n, rfl⟩ := Int.eq_ofNat_of_zero_le hn0
  clear hn
  have hmk : ∀ u : World, (Instr.makeSlice 48 (.int .i64 ((n : Int) + 1)) (.int .i64 ((n : Int) + 1))).run Try.prog u = .ok (.slice (some ⟨u.heap.size, 0, none⟩) (n + 1) (n + 1)) (u.alloc (.cells (bools (List.replicate (n + 1) false)) 4)) := by
    obtain ⟨i0, hi, hz0, hz1, hz2⟩ := info_parts Try.info4
    exact run_make_bools Try.underlying48 hi hz0 hz1 hz2 _ (n + 1) (by omega) (by omega)
  go_wp2_with (fail)
  go_loopw [8] (fun i wr => Turn1 n w.heap.size bq bm w i wr) (fun i _ => (n + 1 - (intOf i)).toNat)
  case atStart => exact ⟨0, [], rfl, Nat.zero_le _, HQ2.out, rfl, HF2.out⟩
  case round =>
    obtain ⟨k, l, rfl, hk, hq, hl, hf⟩ := hrel
    have HQ := Lib.hid hq
    have HL := Lib.hid hl
    have HF := Lib.hid hf
    clear hq hl hf
    by_cases hlt : k + 1 ≤ n
    · clear hmk
      go_wp2_with (fail)
      refine (QI.join_any _ bq bm k _ _ l HQ.out (by omega) (by omega) (tv_le HL.out (fun t ht => by have := List.mem_range'_1.1 ht; omega))).mono ?_
      rintro e w4 ⟨rfl, ⟨b, hb, hq4⟩, hf4⟩
      have HQ4 := Lib.hid (own_ex HF.out.size hq4)
      have HF4 := Lib.hid (HF.out.own hf4)
      clear hq4 hf4
      go_wp2_with (fail)
      go_roundw
      case rel =>
        refine ⟨k + 1, _, rfl, hlt, HQ4.out, ?_, HF4.out⟩
        rw [List.map_append, HL.out, List.range'_concat, List.map_append]
        simp [tv, tf]
        omega
      case measure => simp [intOf]; omega
    · have hkn : k = n := by omega
      subst hkn
      clear hlt hk
      have hfresh := live_fresh (k + 1) 1 k
      rw [show k + 1 - 1 = k from rfl] at hfresh
      have HLF := Lib.hid hfresh
      clear hfresh
      have hQ0 : QRep 93 96 (fun x => w.heap.size ≤ x ∧ x ≠ wr.heap.size) (wr.alloc (.cells (bools (List.replicate (k + 1) false)) 4)) bq k l bm :=
        (HQ.out.mono (G := fun x => w.heap.size ≤ x ∧ x ≠ wr.heap.size) (fun x hx h => ⟨h, by omega⟩)).fr ((Fr.refl (fun _ => False) wr).alloc _) (fun _ _ _ h => h)
      have HQ0 := Lib.hid hQ0
      have HG0 := Lib.hid (heap_alloc_eq wr (.cells (bools (List.replicate (k + 1) false)) 4))
      have HBG : Hid (w.heap.size ≤ wr.heap.size) := HF.out.size
      clear hQ0
      go_wp2_with (fail)
      generalize wr.heap.size = bg at *
      go_loopw [10, 11] (fun lf i wr => Turn2 k ln w.heap.size bq bm bg w lf i wr) (fun _ i _ => (ln - (intOf i)).toNat)
      case atStart =>
        refine ⟨0, l, List.replicate (k + 1) false, rfl, Nat.zero_le _, ?_, by simp, HQ0.out, by rw [HL.out, HLF.out], HG0.out, HF.out.alloc _⟩
        have := congrArg List.length HL.out
        simp at this
        rw [this]
      case round =>
        obtain ⟨i, l2, bs, rfl, hi, rfl, hbl, hq, hl, hg, hf⟩ := hrel
        have HQ := Lib.hid hq
        have HL := Lib.hid hl
        have HF := Lib.hid hf
        have HG := Lib.hid hg
        have HBL := Lib.hid hbl
        clear hq hl hf hg hbl
        by_cases hlt : i < ln ∧ 0 < k
        · obtain ⟨hlt, hk0⟩ := hlt
          obtain rfl := HLA.out (by omega)
          obtain ⟨hc1, hc2, hc3⟩ := HC.out i hlt
          have hc4 : wr.cell? ⟨lb, lo + i, none⟩ = some (.int .i64 (zs.getD i 0)) := by
            rw [World.cell?_of_block (w := w) (HF.out.block lb (World.block_lt_of_cell? w _ hc1) (fun h => h))]
            exact hc1
          have HC1 := Lib.hid hc1
          clear hc1
          generalize zs.getD i 0 = z at *
          go_wp2_with (fail)
          refine (pick_any z k wr hc2 hc3 (by omega)).mono ?_
          rintro e w3 ⟨t0, rfl, ht, _, rfl⟩
          obtain ⟨ht0, ht1⟩ := ht (by omega)
          obtain ⟨t, rfl⟩ := Int.eq_ofNat_of_zero_le ht0
          clear ht
          go_wp2_with (fail)
          have htl : 1 + t < bs.length := by have := HBL.out; omega
          by_cases hgone : bs.getD (1 + t) false = true
          · have hg1 : wr.cell? ⟨bg, 1 + t, none⟩ = some (.bool true) := by rw [← hgone]; exact cell_bools HG.out htl
            have hg2 := frozen_of HG.out (1 + t)
            have HGO := Lib.hid hgone
            clear hgone
            refine (QI.leave_none _ bq bm _ (1 + t) wr l2 HQ.out (tv_not HL.out (t := 1 + t) (by omega) (fun h => by have := (mem_live.1 h).2; rw [HGO.out] at this; cases this))).mono ?_
            rintro e w3 ⟨rfl, rfl⟩
            go_wp2_with (fail)
            go_roundw
            case rel =>
              refine ⟨i + 1, l2, bs.set (1 + t) true, rfl, hlt, rfl, by rw [List.length_set]; exact HBL.out, HQ.out.fr ((Fr.refl (fun x => x = bg) _).setCell (.inl rfl) _) (fun _ _ h e => h.2 e), ?_, ?_, HF.out.setCell (.inr HBG.out) _⟩
              · rw [live_set htl, filter_all (fun h => by have := (mem_live.1 h).2; rw [HGO.out] at this; cases this)]
                exact HL.out
              · rw [← bools_set]
                exact heap_setCell_eq _ _ HG.out
            case measure => simp [intOf]; omega
          · have hgone' : bs.getD (1 + t) false = false := by simpa using hgone
            have hg1 : wr.cell? ⟨bg, 1 + t, none⟩ = some (.bool false) := by rw [← hgone']; exact cell_bools HG.out htl
            have hg2 := frozen_of HG.out (1 + t)
            obtain ⟨us, b, vs, hus, hvs, hlen⟩ := tv_split (i := 1 + t) (x := 1000 - (1 + t)) HL.out (nodup_live _ _ _) (t := 1 + t) (by omega) rfl (mem_live.2 ⟨⟨by omega, by omega⟩, hgone'⟩)
            have HUS := Lib.hid hus
            have HVS := Lib.hid hvs
            have HLEN := Lib.hid hlen
            have hl1 : 0 < l2.length := by rw [hus]; simp; omega
            have hl3 : l2.length ≤ 302 := by have h1 := congrArg List.length HL.out; have h2 := live_length bs 1 k; simp at h1; omega
            clear hgone hgone' hus hvs hlen
            refine (QI.leave_any _ bq bm _ (1 + t) b (1000 - (1 + t)) wr l2 us vs HQ.out HUS.out).mono ?_
            rintro e w3 ⟨rfl, hq3, hf3⟩
            have HQ3 := Lib.hid hq3
            have HG3 := Lib.hid (hf3.get HG.out (fun h => h.2 rfl))
            have hg3 : w3.cell? ⟨bg, 1 + t, none⟩ = some (.bool false) := by rw [World.cell?_of_block (w := wr) (hf3.block bg (lt_of_heap HG.out) (fun h => h.2 rfl))]; exact hg1
            have hg4 := frozen_of HG3.out (1 + t)
            have HF3 := Lib.hid (HF.out.own (hf3.mono (fun _ _ h => h.1)))
            clear hq3 hf3
            go_wp2_with (fail)
            go_roundw
            case rel =>
              refine ⟨i + 1, us ++ vs, bs.set (1 + t) true, rfl, hlt, by rw [HLEN.out], by rw [List.length_set]; exact HBL.out, HQ3.out.fr ((Fr.refl (fun x => x = bg) _).setCell (.inl rfl) _) (fun _ _ h e => h.2 e), ?_, ?_, HF3.out.setCell (.inr HBG.out) _⟩
              · rw [live_set htl]
                exact HVS.out
              · rw [← bools_set]
                exact heap_setCell_eq _ _ HG3.out
            case measure => simp [intOf]; omega
        · have HLT := Lib.hid hlt
          clear hlt
          by_cases hil : i < ln
          all_goals
            (try (have hk0 : ¬ (0 : Int) < (k : Int) := fun h => HLT.out ⟨hil, by omega⟩))
            go_wp2_with (fail)
            go_loopw [10, 15] (fun lf i wr => Turn3 k w.heap.size bq bm bg bs w lf i wr) (fun _ i _ => (k + 1 - (intOf i)).toNat)
            case atStart => exact ⟨0, l2, rfl, Nat.zero_le _, rfl, HQ.out, HL.out, HG.out, HF.out⟩
            case round =>
              obtain ⟨j, l3, rfl, hj, rfl, hq, hl, hg, hf⟩ := hrel
              have HQ3 := Lib.hid hq
              have HL3 := Lib.hid hl
              have HF3 := Lib.hid hf
              have HG3 := Lib.hid hg
              clear hq hl hf hg
              by_cases hlt : j + 1 ≤ k
              · first
                | exact absurd hil (fun h => HLT.out ⟨h, by omega⟩)
                | (
                    have hjl : j + 1 < bs.length := by have := HBL.out; omega
                    have hnx := live_next (bs := bs) hlt
                    by_cases hgone : bs.getD (j + 1) false = true
                    · have hg1 : wr.cell? ⟨bg, j + 1, none⟩ = some (.bool true) := by rw [← hgone]; exact cell_bools HG3.out hjl
                      rw [hgone, if_pos rfl] at hnx
                      have HNX := Lib.hid hnx
                      clear hnx hgone
                      go_wp2_with (fail)
                      go_roundw
                      case rel => exact ⟨j + 1, l3, rfl, hlt, rfl, HQ3.out, by rw [← HNX.out]; exact HL3.out, HG3.out, HF3.out⟩
                      case measure => simp [intOf]; omega
                    · have hgone' : bs.getD (j + 1) false = false := by simpa using hgone
                      have hg1 : wr.cell? ⟨bg, j + 1, none⟩ = some (.bool false) := by rw [← hgone']; exact cell_bools HG3.out hjl
                      rw [hgone', if_neg (by simp)] at hnx
                      have hl0 : l3.map tv = ((j + 1) :: live bs (j + 1 + 1) k).map tf := by rw [← hnx]; exact HL3.out
                      obtain ⟨nd, l4, rfl, hnd, hl4⟩ := List.map_eq_cons_iff.1 hl0
                      obtain ⟨b, t', v'⟩ := nd
                      have e1 : t' = (j : Int) + 1 := (congrArg Prod.fst hnd : _)
                      have e2 : v' = .int .i64 (1000 - ((j : Int) + 1)) := (congrArg Prod.snd hnd : _)
                      subst e1 e2
                      have HL4 := Lib.hid hl4
                      have hll : l4.length ≤ 302 := by have h1 := congrArg List.length hl4; have h2 := live_length bs (j + 1 + 1) k; simp at h1; omega
                      clear hgone hgone' hnx hl0 hl4 hnd
                      go_wp2_with (fail)
                      refine (QI.first_cons _ bq bm _ (j + 1) b (1000 - (j + 1)) wr l4 HQ3.out).mono ?_
                      rintro e w3 ⟨rfl, n3, rfl⟩
                      go_wp2_with (fail)
                      refine (QI.len_any _ bq bm _ _ _ (HQ3.out.drewN _)).mono ?_
                      rintro e w3 ⟨rfl, rfl⟩
                      go_wp2_with (fail)
                      refine (QI.leave_any _ bq bm _ (j + 1) b (1000 - (j + 1)) (wr.drewN n3) _ [] l4 (HQ3.out.drewN _) rfl).mono ?_
                      rintro e w3 ⟨rfl, hq4, hf4⟩
                      have HQ4 := Lib.hid hq4
                      have HG4 := Lib.hid (hf4.get HG3.out (fun h => h.2 rfl))
                      have HF4 := Lib.hid ((HF3.out.drewN n3).own (hf4.mono (fun _ _ h => h.1)))
                      clear hq4 hf4
                      go_wp2_with (fail)
                      go_roundw
                      case rel => exact ⟨j + 1, l4, rfl, hlt, by first | rfl | (congr 1; omega), HQ4.out, HL4.out, HG4.out, HF4.out⟩
                      case measure => simp [intOf]; omega)
              · have hjk : j = k := by omega
                subst hjk
                have hl0 : l3 = [] := by
                  have := HL3.out
                  rw [live_none (by omega)] at this
                  exact List.map_eq_nil_iff.1 this
                subst hl0
                clear hlt
                go_wp2_with (fail)
                refine (QI.first_nil _ bq bm _ wr HQ3.out).mono ?_
                rintro e w3 ⟨rfl, rfl⟩
                go_wp2_with (fail)
                refine (QI.len_any _ bq bm _ _ _ HQ3.out).mono ?_
                rintro e w3 ⟨rfl, rfl⟩
                go_wp2_with (fail)
                refine (QI.join_any _ bq bm j 5 _ _ HQ3.out (by omega) (by omega) (by simp)).mono ?_
                rintro e w4 ⟨rfl, ⟨b, hb, hq4⟩, hf4⟩
                have HF4 := Lib.hid (HF3.out.own (hf4.mono (fun _ _ h => h.1)))
                clear hq4 hf4
                go_wp2_with (fail)
                go_ret
                exact ⟨rfl, HF4.out⟩

end Go.Proofs.Ytolonoabipnpfaa
