/- THE WALK of HeapTexts. -/
import Derived.Test.YtikimfdijkejpaaHpTexts0
namespace Go.Proofs.Ytikimfdijkejpaa
open Go.RowKit Go.Sb Go.Proofs.Ytikimfdijkejpaa.HS

def TF1 (w : World) (gB : Nat) : Nat → Prop := fun k => w.heap.size ≤ k ∧ k ≠ gB

def TRel1 (w : World) (n : Nat) (ss : Nat → ByteArray) (bh bm : Nat) (s : Value) (wr : World) : Prop :=
  ∃ (k : Nat) (L : List (Int × ByteArray)) (lv : Value) (m : List (Int × Value)), s = .int .i64 (k : Int) ∧ k ≤ n ∧ L.Perm ((List.range' 1 k).map (entT ss)) ∧ HOK sLen L ∧ HRep 94 96 2 (fun j => w.heap.size ≤ j) wr bh (.func (.func 16) #[] #[]) (k : Int) (L.map en) lv bm m ∧ Fr (fun _ => False) w wr

/-- What stands between two drops. -/
structure TSt (w : World) (n : Nat) (ss : Nat → ByteArray) (bh bm gB : Nat) (L : List (Int × ByteArray)) (bs : List Bool) (wr : World) : Prop where
  bl : bs.length = n + 1
  p : L.Perm (liveT ss bs n)
  ok : HOK sLen L
  h : ∃ lv m, HRep 94 96 2 (TF1 w gB) wr bh (.func (.func 16) #[] #[]) (n : Int) (L.map en) lv bm m
  g : wr.heap[gB]? = some (.cells (bools bs) 4 (0, 0))
  fr : Fr (fun _ => False) w wr
  gw : w.heap.size ≤ gB

theorem TSt.kept {w : World} {n : Nat} {ss : Nat → ByteArray} {bh bm gB : Nat} {L : List (Int × ByteArray)} {bs : List Bool} {wr wr' : World} (h : TSt w n ss bh bm gB L bs wr) (hf : Fr (fun _ => False) wr wr') : TSt w n ss bh bm gB L bs wr' := by
  obtain ⟨lv, m, hr⟩ := h.h
  exact ⟨h.bl, h.p, h.ok, ⟨lv, m, hr.fr hf (fun _ _ _ h => h)⟩, hf.get h.g id, h.fr.trans hf (fun _ _ h => h), h.gw⟩

theorem TSt.take {w : World} {n : Nat} {ss : Nat → ByteArray} {bh bm gB : Nat} {L : List (Int × ByteArray)} {bs : List Bool} {wr wr' : World} {t q : Nat} (h : TSt w n ss bh bm gB L bs wr) (hq : L[q]? = some (entT ss t)) (ht : t ∈ live bs 1 n)
    (hr : ∃ lv m, HRep 94 96 2 (fun j => TF1 w gB j ∧ j < wr.heap.size) wr' bh (.func (.func 16) #[] #[]) (n : Int) ((takeL sLen L q).map en) lv bm m) (hf : Fr (fun k => (TF1 w gB k ∧ k < wr.heap.size) ∨ noSbS k) wr wr') :
    TSt w n ss bh bm gB (takeL sLen L q) (bs.set t true) (wr'.setCell ⟨gB, t, none⟩ (.bool true)) ∧ wr'.heap[gB]? = some (.cells (bools bs) 4 (0, 0)) := by
  have htl : t < bs.length := by
    have := (mem_live.1 ht).1
    rw [h.bl]
    omega
  have hg : wr'.heap[gB]? = some (.cells (bools bs) 4 (0, 0)) := hf.get h.g (fun hx => hx.elim (fun hx => hx.1.2 rfl) id)
  have hs : Fr (fun k => k = gB) wr' (wr'.setCell ⟨gB, t, none⟩ (.bool true)) := (Fr.refl (fun k => k = gB) wr').setCell (p := ⟨gB, t, none⟩) (.inl rfl) _
  obtain ⟨lv, m, hr⟩ := hr
  refine ⟨⟨by rw [List.length_set]; exact h.bl, take_live h.p hq ht htl, takeL_ok _ h.ok, ⟨lv, m, (hr.mono (fun j _ hj => hj.1)).fr hs (fun k _ hk e => hk.2 e)⟩, ?_, ?_, h.gw⟩, hg⟩
  · rw [← bools_set]
    exact heap_setCell_eq t (.bool true) hg
  · refine (h.fr.trans hf (fun k hk hx => ?_)).trans hs (fun k hk e => ?_)
    · rcases hx with hx | hx
      · have := hx.1.1
        omega
      · exact hx.elim
    · have := h.gw
      omega

set_option maxRecDepth 100000 in
set_option maxHeartbeats 8000000 in
theorem texts_any (sa : Option Addr) (tb tz n tc : Nat) (ss : Nat → ByteArray) (da : Option Addr) (db dz dn dc : Nat) (ds : Nat → Int) (w : World) (hsa : 0 < n → sa = some ⟨tb, tz, none⟩) (hda : 0 < dn → da = some ⟨db, dz, none⟩) (hn : n ≤ 8796093021952) (hdn : dn ≤ 4611686018427387904)
    (hs : ∀ i, i < n → w.cell? ⟨tb, tz + i, none⟩ = some (.string (ss i))) (hd : ∀ i, i < dn → w.cell? ⟨db, dz + i, none⟩ = some (.int .i64 (ds i))) :
    Calls Try.prog 4 #[.slice sa n tc, .slice da dn dc] w fun e w' => e = .returned (.bool true) ∧ Fr (fun _ => False) w w' := by
  have HSA := Lib.hid hsa
  have HDA := Lib.hid hda
  have HS := Lib.hid hs
  have HD := Lib.hid hd
  clear hsa hda hs hd
  obtain ⟨i4, hi4, hz0, hz1, hz2⟩ := info_parts (show (Try.prog.info? 4).map (fun i => (i.zero, i.size, i.bytes)) = some (some (.bool false), 1, 1) by kernel_rfl)
  have hmk : ∀ u : World, (Instr.makeSlice 41 (.int .i64 ((n : Int) + 1)) (.int .i64 ((n : Int) + 1))).run Try.prog u = .ok (.slice (some ⟨u.heap.size, 0, none⟩) (n + 1) (n + 1)) (u.alloc (.cells (bools (List.replicate (n + 1) false)) 4)) :=
    run_make_bools Try.underlying41 hi4 hz0 hz1 hz2 _ (n + 1) (by omega) (by omega)
  clear hi4 hz0 hz1 hz2
  go_enter Try.func4, Try.ntmps4
  go_wp2_with (first
    | (go_at_call 8; refine (Go.Proofs.Ytikimfdijkejpaa.HT.shown_any _).mono ?_; rintro e w1 ⟨rfl, hf1⟩; have HF1 := Lib.hid hf1; clear hf1)
    | (go_at_call 15; refine (new_any 16 #[] _).mono ?_; rintro e w2 ⟨bh, bm, rfl, hr, hf2⟩; have HR2 := Lib.hid hr; have HF2 : Hid (Fr (fun _ => False) w w2) := Lib.hid (HF1.out.trans hf2 (fun _ _ h => h)); clear hr hf2))
  go_loopw [30] (fun s wr => TRel1 w n ss bh bm s wr) (fun s _ => n - (intOf s).toNat)
  case atStart => exact ⟨0, [], _, _, rfl, Nat.zero_le _, List.Perm.refl _, HOK.nil, HR2.out.mono (fun j _ hj => Nat.le_trans HF1.out.size hj), HF2.out⟩
  case round =>
    obtain ⟨k, L, lv, m, rfl, hk, hp, hok, hr, hf⟩ := hrel
    have HP := Lib.hid hp
    have HR := Lib.hid hr
    have HOKL := Lib.hid hok
    have HF := Lib.hid hf
    clear hp hr hok hf
    have hLk : L.length = k := by rw [HP.out.length_eq]; simp
    have HLK := Lib.hid hLk
    clear hLk
    by_cases hlt : k < n
    · obtain rfl := HSA.out (by omega)
      have d0 := cell_fr HF.out (HS.out k hlt) id
      have HT : Hid (∀ p ∈ L, p.1 ≤ (k : Int)) := Lib.hid (fun p hp => by
        obtain ⟨t, ht, rfl⟩ := List.mem_map.1 (HP.out.mem_iff.1 hp)
        have := List.mem_range'_1.1 ht
        show (t : Int) ≤ k
        omega)
      go_wp2_with (go_at_call 17; refine (push_any short_spec (ss k) (HR.out.mono (G := fun j => w.heap.size ≤ j) (fun _ _ h => h)) (by omega) (by omega) (by rw [HLK.out]; omega) HT.out (fun _ _ => trivial) trivial (c := 0) trivial (fun _ h => h.elim)).mono ?_; rintro e w4 ⟨rfl, ⟨lv4, m4, hr4⟩, _, hf4⟩; have HR4 := Lib.hid hr4; have HF4 := Lib.hid hf4; clear hr4 hf4)
      go_roundw
      case rel =>
        refine ⟨k + 1, _, lv4, m4, by go_num, by omega, ?_, pushL_ok _ HOKL.out, HR4.out.mono (fun j _ hj => hj.elim id (fun h => Nat.le_trans HF.out.size h)), HF.out.trans HF4.out (fun j hj h => h.elim (fun h => by omega) (fun h => h.elim))⟩
        rw [List.range'_concat, List.map_append]
        refine (pushL_perm _ _).trans ?_
        have he : ((k : Int) + 1, ss k) = entT ss (1 + 1 * k) := by
          unfold entT
          rw [show 1 + 1 * k - 1 = k by omega]
          congr 1
          omega
        rw [he]
        exact HP.out.append_right _
      case measure => simp [intOf]; omega
    · obtain rfl : k = n := by omega
      go_wp2_with (fail)
      have hlv : live (List.replicate (k + 1) false) 1 k = List.range' 1 k := by rw [live_fresh]; simp
      have hst : TSt w k ss bh bm wr.heap.size L (List.replicate (k + 1) false) (wr.alloc (.cells (bools (List.replicate (k + 1) false)) 4)) := by
        refine ⟨by simp, ?_, HOKL.out, ⟨lv, m, ?_⟩, heap_alloc_eq _ _, HF.out.alloc _, HF.out.size⟩
        · unfold liveT
          rw [hlv]
          exact HP.out
        · exact (HR.out.mono (fun j hj hF => ⟨hF, by omega⟩)).fr ((Fr.refl (fun _ => False) wr).alloc _) (fun _ _ _ h => h)
      have HST := Lib.hid hst
      have HLV : Hid ((live (List.replicate (k + 1) false) 1 k).length = k) := Lib.hid (by rw [hlv]; simp)
      clear hst hlv hmk
      generalize hgB : wr.heap.size = gB at *
      generalize wr.alloc (.cells (bools (List.replicate (k + 1) false)) 4) = wB at *
      clear hgB
      obtain ⟨n, rfl⟩ : ∃ n, n = k := ⟨_, rfl⟩
      go_loopw [9, 50] (fun s9 s50 wq => ∃ (j : Nat) (L : List (Int × ByteArray)) (bs : List Bool), s50 = .int .i64 (j : Int) ∧ j ≤ dn ∧ s9 = .int .i64 ((live bs 1 n).length : Int) ∧ TSt w n ss bh bm gB L bs wq) (fun _ s50 _ => dn - (intOf s50).toNat)
      case atStart => exact ⟨0, L, _, rfl, Nat.zero_le _, by rw [HLV.out], HST.out⟩
      case round =>
        obtain ⟨j, L, bs, rfl, hj, rfl, ht⟩ := hrel
        have HT := Lib.hid ht
        have hbl := ht.bl
        have HBL := Lib.hid hbl
        have hlb : (live bs 1 n).length ≤ n + 1 := live_length bs 1 n
        obtain ⟨lv2, m2, hr2⟩ := ht.h
        have HR := Lib.hid hr2
        have HFR := Lib.hid ht.fr
        clear ht hr2 hbl
        by_cases hlt : j < dn
        · obtain rfl := HDA.out (by omega)
          have d0 := cell_fr HFR.out (HD.out j hlt) id
          have ht0 : 0 ≤ ds j % ((n : Int) + 2) := Int.emod_nonneg _ (by omega)
          have ht1 : ds j % ((n : Int) + 2) < (n : Int) + 2 := Int.emod_lt_of_pos _ (by omega)
          obtain ⟨tn, htn⟩ : ∃ tn : Nat, ds j % ((n : Int) + 2) = (tn : Int) := ⟨(ds j % ((n : Int) + 2)).toNat, by omega⟩
          have htb : tn ≤ n + 1 := by omega
          have HTN := Lib.hid htn
          clear htn ht0 ht1
          by_cases h1 : 1 ≤ tn ∧ tn ≤ n
          · obtain ⟨h1a, h1b⟩ := h1
            have htl : tn < bs.length := by rw [HBL.out]; omega
            have hgc := cell_bools HT.out.g htl
            cases hgv : bs.getD tn false
            · rw [hgv] at hgc
              have hlive : tn ∈ live bs 1 n := mem_live.2 ⟨⟨h1a, h1b⟩, hgv⟩
              obtain ⟨q, hq⟩ := live_yes HT.out.p hlive
              have HQ := Lib.hid hq
              have HLI := Lib.hid hlive
              have HLL := Lib.hid (live_len hlive htl)
              have hpos : 1 ≤ (live bs 1 n).length := by rw [live_len hlive htl]; omega
              obtain rfl := HSA.out (by omega)
              have s0 := HS.out (tn - 1) (by omega)
              have q1 : (1 : Int) ≤ (tn : Int) := by omega
              have q2 : (0 : Int) ≤ (tn : Int) - 1 := by omega
              have q3 : (tn : Int) - 1 < (n : Int) := by omega
              have q4 : ((tn : Int) - 1).toNat = tn - 1 := by omega
              have hLl : L.length ≤ 8796093022208 := by
                rw [HT.out.p.length_eq]
                unfold liveT
                rw [List.length_map]
                omega
              clear hgv hlive hq
              go_wp2_with (first
                | (go_at_call 18; refine (Go.Proofs.Ytikimfdijkejpaa.HT.among_any (ds j) ((n : Int) + 2) _ (by omega) (by omega)).mono ?_; rintro e w3 ⟨rfl, rfl⟩; rw [HTN.out])
                | (go_at_call 19; refine (remove_some short_spec (HR.out.mono (G := fun i => TF1 w gB i ∧ i < wr.heap.size) (fun i hi hF => ⟨hF, hi⟩)) HQ.out hLl (fun _ _ => trivial) (c := 0) trivial (fun _ h => h.2) (fun _ h => h.elim)).mono ?_; rintro e w4 ⟨rfl, hr4, _, hf4⟩; dsimp only [thV, entT]; obtain ⟨ht4, hg4⟩ := HT.out.take HQ.out HLI.out hr4 hf4; have g4 : w4.cell? ⟨gB, tn, none⟩ = some (.bool false) := (by rw [← hgc, cell_of hg4, cell_of HT.out.g]); have g5 := frozen_of hg4 tn; have s4 := cell_fr (HFR.out.trans hf4 (fun k hk hx => by rcases hx with hx | hx; have := hx.1.1; omega; exact hx.elim)) s0 id; have HT4 := Lib.hid ht4; clear ht4 hg4 hr4 hf4))
              go_roundw
              case rel => exact ⟨j + 1, _, _, by go_num, by omega, by have := HLL.out; congr 1; omega, HT4.out⟩
              case measure => simp [intOf]; omega
            · rw [hgv] at hgc
              have HGV := Lib.hid hgv
              clear hgv
              have hno : tn ∉ live bs 1 n := fun h => by
                have := (mem_live.1 h).2
                rw [HGV.out] at this
                cases this
              have HNO := Lib.hid (live_no HT.out.p hno)
              clear hno
              go_wp2_with (first
                | (go_at_call 18; refine (Go.Proofs.Ytikimfdijkejpaa.HT.among_any (ds j) ((n : Int) + 2) _ (by omega) (by omega)).mono ?_; rintro e w3 ⟨rfl, rfl⟩; rw [HTN.out])
                | (go_at_call 19; refine (remove_none HR.out HNO.out).mono ?_; rintro e w4 ⟨rfl, hf4⟩; have g4 := cell_fr hf4 hgc id; have HT4 := Lib.hid (HT.out.kept hf4); clear hf4))
              go_roundw
              case rel => exact ⟨j + 1, L, bs, by go_num, by omega, rfl, HT4.out⟩
              case measure => simp [intOf]; omega
          · have hno : tn ∉ live bs 1 n := fun h => h1 (mem_live.1 h).1
            have hno2 := live_no HT.out.p hno
            clear hno
            by_cases h0 : tn = 0
            · subst h0
              have HNO : Hid (∀ p ∈ L, p.1 ≠ (0 : Int)) := Lib.hid hno2
              have HTN0 : Hid (ds j % ((n : Int) + 2) = 0) := HTN
              clear hno2 HTN h1 htb
              go_wp2_with (first
                | (go_at_call 18; refine (Go.Proofs.Ytikimfdijkejpaa.HT.among_any (ds j) ((n : Int) + 2) _ (by omega) (by omega)).mono ?_; rintro e w3 ⟨rfl, rfl⟩; rw [HTN0.out])
                | (go_at_call 19; refine (remove_none HR.out HNO.out).mono ?_; rintro e w4 ⟨rfl, hf4⟩; have HT4 := Lib.hid (HT.out.kept hf4); clear hf4))
              go_roundw
              case rel => exact ⟨j + 1, L, bs, by go_num, by omega, rfl, HT4.out⟩
              case measure => simp [intOf]; omega
            · obtain rfl : tn = n + 1 := by omega
              have HNO : Hid (∀ p ∈ L, p.1 ≠ (n : Int) + 1) := Lib.hid (fun p hp => by have := hno2 p hp; omega)
              have HTN0 : Hid (ds j % ((n : Int) + 2) = (n : Int) + 1) := Lib.hid (by have := HTN.out; omega)
              clear hno2 HTN h1 htb h0
              go_wp2_with (first
                | (go_at_call 18; refine (Go.Proofs.Ytikimfdijkejpaa.HT.among_any (ds j) ((n : Int) + 2) _ (by omega) (by omega)).mono ?_; rintro e w3 ⟨rfl, rfl⟩; rw [HTN0.out])
                | (go_at_call 19; refine (remove_none HR.out HNO.out).mono ?_; rintro e w4 ⟨rfl, hf4⟩; have HT4 := Lib.hid (HT.out.kept hf4); clear hf4))
              go_roundw
              case rel => exact ⟨j + 1, L, bs, by go_num, by omega, rfl, HT4.out⟩
              case measure => simp [intOf]; omega
        · obtain rfl : j = dn := by omega
          go_wp2_with (fail)
          go_loopw [9, 15, 16] (fun s9 s15 s16 wp => ∃ (L : List (Int × ByteArray)) (bs : List Bool) (la sz : Int), s9 = .int .i64 ((live bs 1 n).length : Int) ∧ s15 = .int .i64 la ∧ s16 = .int .i64 sz ∧ TSt w n ss bh bm gB L bs wp ∧ ∀ p ∈ L, sz < sLen p.2 ∨ (sz = sLen p.2 ∧ la ≤ p.1)) (fun s9 _ _ _ => (intOf s9).toNat)
          case atStart => exact ⟨L, bs, 0, -1, rfl, rfl, rfl, HT.out, fun p _ => .inl (by unfold sLen; omega)⟩
          case round =>
            obtain ⟨L, bs, la, sz, h9, rfl, rfl, ht, hord⟩ := hrel
            have HT := Lib.hid ht
            have HBL := Lib.hid ht.bl
            have hlb : (live bs 1 n).length ≤ n + 1 := live_length bs 1 n
            obtain ⟨lv2, m2, hr2⟩ := ht.h
            have HR := Lib.hid hr2
            have HFR := Lib.hid ht.fr
            clear ht hr2
            cases L with
            | nil =>
              have hl0 : (live bs 1 n).length = 0 := by
                have := HT.out.p.length_eq
                unfold liveT at this
                simpa using this.symm
              rw [hl0] at h9
              subst h9
              clear hord hl0
              go_wp2_with (first
                | (go_at_call 20; refine (len_any HR.out).mono ?_; rintro e w5 ⟨rfl, rfl⟩; dsimp only [List.length_nil])
                | (go_at_call 21; refine (pop_none HR.out).mono ?_; rintro e w6 ⟨rfl, hf6⟩; have HF6 := Lib.hid hf6; clear hf6))
              go_ret
              exact ⟨rfl, HFR.out.trans HF6.out (fun _ _ h => h)⟩
            | cons a L =>
              obtain ⟨t, htl, rfl⟩ := liveT_mem (HT.out.p.mem_iff.1 (List.mem_cons_self))
              have hm := mem_live.1 htl
              have htb : t < bs.length := by rw [HBL.out]; omega
              have hgc := cell_bools HT.out.g htb
              rw [hm.2] at hgc
              have HLI := Lib.hid htl
              have HLL := Lib.hid (live_len htl htb)
              have hpos : 1 ≤ (live bs 1 n).length := by rw [live_len htl htb]; omega
              have hLl : (entT ss t :: L).length ≤ 8796093022208 := by
                rw [HT.out.p.length_eq]
                unfold liveT
                rw [List.length_map]
                omega
              have hL0 : decide ((0 : Int) < ((entT ss t :: L).length : Int)) = true := by simp
              obtain rfl := HSA.out (by omega)
              have s0 := HS.out (t - 1) (by omega)
              have t1 : (1 : Int) ≤ (t : Int) := by omega
              have t2 : (t : Int) ≤ (n : Int) := by omega
              have q2 : (0 : Int) ≤ (t : Int) - 1 := by omega
              have q3 : (t : Int) - 1 < (n : Int) := by omega
              have q4 : ((t : Int) - 1).toNat = t - 1 := by omega
              have HFI := Lib.hid (HT.out.ok.first (z := entT ss t) rfl)
              have hnx : ∀ p ∈ takeL sLen (entT ss t :: L) 0, ((ss (t - 1)).size : Int) < sLen p.2 ∨ (((ss (t - 1)).size : Int) = sLen p.2 ∧ (t : Int) ≤ p.1) := fun p hp =>
                HFI.out p ((takeL_perm (key := sLen) (L := entT ss t :: L) (i := 0) rfl).mem_iff.1 (List.mem_cons_of_mem _ hp))
              have HNX := Lib.hid hnx
              have hor := hord (entT ss t) (List.mem_cons_self)
              have hor2 : sz < ((ss (t - 1)).size : Int) ∨ (sz = ((ss (t - 1)).size : Int) ∧ la ≤ (t : Int)) := hor
              clear hm htl hnx hord hor
              subst h9
              rcases hor2 with ho | ⟨ho, ho2⟩
              · have o1 : decide (((ss (t - 1)).size : Int) < sz) = false := by simp; omega
                have o2 : ((((ss (t - 1)).size : Int)) == sz) = false := by simp; omega
                go_wp2_with (first
                  | (go_at_call 20; refine (len_any HR.out).mono ?_; rintro e w5 ⟨rfl, rfl⟩)
                  | (go_at_call 21; refine (pop_some short_spec (HR.out.mono (G := fun i => TF1 w gB i ∧ i < wr.heap.size) (fun i hi hF => ⟨hF, hi⟩)) rfl hLl (fun _ _ => trivial) (c := 0) trivial (fun _ h => h.2) (fun _ h => h.elim)).mono ?_; rintro e w4 ⟨rfl, hr4, _, hf4⟩; dsimp only [thV, entT]; obtain ⟨ht4, hg4⟩ := HT.out.take (q := 0) rfl HLI.out hr4 hf4; have g4 : w4.cell? ⟨gB, t, none⟩ = some (.bool false) := (by rw [← hgc, cell_of hg4, cell_of HT.out.g]); have g5 := frozen_of hg4 t; have s4 := cell_fr (HFR.out.trans hf4 (fun k hk hx => by rcases hx with hx | hx; have := hx.1.1; omega; exact hx.elim)) s0 id; have HT4 := Lib.hid ht4; clear ht4 hg4 hr4 hf4))
                go_roundw
                case rel => exact ⟨_, _, t, _, by have := HLL.out; congr 1; omega, rfl, rfl, HT4.out, HNX.out⟩
                case measure => simp [intOf]; omega
              · subst ho
                have o3 : decide ((t : Int) < la) = false := by simp; omega
                go_wp2_with (first
                  | (go_at_call 20; refine (len_any HR.out).mono ?_; rintro e w5 ⟨rfl, rfl⟩)
                  | (go_at_call 21; refine (pop_some short_spec (HR.out.mono (G := fun i => TF1 w gB i ∧ i < wr.heap.size) (fun i hi hF => ⟨hF, hi⟩)) rfl hLl (fun _ _ => trivial) (c := 0) trivial (fun _ h => h.2) (fun _ h => h.elim)).mono ?_; rintro e w4 ⟨rfl, hr4, _, hf4⟩; dsimp only [thV, entT]; obtain ⟨ht4, hg4⟩ := HT.out.take (q := 0) rfl HLI.out hr4 hf4; have g4 : w4.cell? ⟨gB, t, none⟩ = some (.bool false) := (by rw [← hgc, cell_of hg4, cell_of HT.out.g]); have g5 := frozen_of hg4 t; have s4 := cell_fr (HFR.out.trans hf4 (fun k hk hx => by rcases hx with hx | hx; have := hx.1.1; omega; exact hx.elim)) s0 id; have HT4 := Lib.hid ht4; clear ht4 hg4 hr4 hf4))
                go_roundw
                case rel => exact ⟨_, _, t, _, by have := HLL.out; congr 1; omega, rfl, rfl, HT4.out, HNX.out⟩
                case measure => simp [intOf]; omega

end Go.Proofs.Ytikimfdijkejpaa
