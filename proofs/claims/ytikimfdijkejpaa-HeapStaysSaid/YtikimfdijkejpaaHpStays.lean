/- THE WALK of HeapStays. -/
import Derived.Test.YtikimfdijkejpaaHpStays0
import Derived.Test.YtikimfdijkejpaaHpAsks
import Derived.Laws.StructEq
namespace Go.Proofs.Ytikimfdijkejpaa
open Go.RowKit Go.Sb Go.Proofs.Ytikimfdijkejpaa.HT

def ThingsAt (w : World) (la : Option Addr) (lb lo ln : Nat) (th : Nat → Int × Int) : Prop := (0 < ln → la = some ⟨lb, lo, none⟩) ∧ ∀ i, i < ln → w.cell? ⟨lb, lo + i * 2, none⟩ = some (.int .i64 (th i).1) ∧ w.cell? ⟨lb, lo + i * 2 + 1, none⟩ = some (.int .i64 (th i).2)

def StRel1 (w : World) (n : Nat) (bh bm : Nat) (s : Value) (wr : World) : Prop :=
  ∃ (k : Nat) (L : List (Int × (Int × Int))) (lv : Value) (m : List (Int × Value)), s = .int .i64 (k : Int) ∧ k ≤ n ∧ L.length = k ∧ HOK kRise L ∧ (∀ p ∈ L, p.1 ≤ (k : Int)) ∧ HRep 99 101 3 (fun j => w.heap.size ≤ j) wr bh (.func (.func 52) #[] #[]) (k : Int) (L.map en) lv bm m ∧ Fr (fun _ => False) w wr

def StRel2 (w : World) (n dn : Nat) (bh bm : Nat) (s : Value) (wr : World) : Prop :=
  ∃ (j : Nat) (L : List (Int × (Int × Int))), s = .int .i64 (j : Int) ∧ j ≤ dn ∧ (∃ lv m, HRep 99 101 3 (fun k => w.heap.size ≤ k) wr bh (.func (.func 52) #[] #[]) (n : Int) (L.map en) lv bm m) ∧ HOK kRise L ∧ L.length ≤ n ∧ Fr (fun _ => False) w wr

theorem ri_nil (W : World) : RI W (.slice none 0 0) [] := ⟨none, 0, rfl, by simp, fun h => absurd h (by simp)⟩

theorem flt_le {zs : List Int} {t : Int} (h : zs.length ≤ 8796093022208) : (zs.filter (fun x => x != t)).length ≤ 4611686018427387904 := Nat.le_trans (List.length_filter_le _ _) (by omega)

theorem neq_thing (W : World) (r m : Int) : (binOp .neq 52 (.agg #[.int .i64 r, .int .i64 m]) (.agg #[.int .i64 r, .int .i64 m])).run Try.prog W = .ok (.bool false) W := by
  rw [run_neq_struct, run_equalIn_agg W 9999 52 _ _ (by kernel_rfl) (by kernel_rfl)]
  simp [go_sem]

set_option maxRecDepth 100000 in
set_option maxHeartbeats 16000000 in
theorem stays_any (ta : Option Addr) (tb tz n tc : Nat) (ts : Nat → Int × Int) (la : Option Addr) (lb lo dn lc : Nat) (th : Nat → Int × Int × Int × (Int × Int)) (w : World) (hn : n ≤ 8796093021952) (hdn : dn ≤ 4398046511104) (hts : ThingsAt w ta tb tz n ts) (hcell : ActsAt w la lb lo dn th) :
    Calls Try.prog 7 #[.slice ta n tc, .slice la dn lc] w fun e w' => e = .returned (.bool true) ∧ Fr (fun _ => False) w w' := by
  have HTS := Lib.hid hts
  have HC := Lib.hid hcell
  clear hts hcell
  go_enter Try.func7, Try.ntmps7
  go_wp2_with (first
    | (go_at_call 8; refine (shown_any _).mono ?_; rintro e w1 ⟨rfl, hf1⟩; have HF1 := Lib.hid hf1; clear hf1)
    | (go_at_call 30; refine (made_any 0 _ (.inl rfl)).mono ?_; rintro e w2 ⟨bh, bm, rfl, hr, hf2⟩; have HR2 : Hid (HRep 99 101 3 (fun k => w1.heap.size ≤ k) w2 bh (.func (.func 52) #[] #[]) 0 (([] : List (Int × (Int × Int))).map en) (.slice none 0 0) bm []) := Lib.hid hr; have HF2 : Hid (Fr (fun _ => False) w w2) := Lib.hid (HF1.out.trans hf2 (fun _ _ h => h)); clear hr hf2))
  go_loopw [23] (fun s wr => StRel1 w n bh bm s wr) (fun s _ => n - (intOf s).toNat)
  case atStart => exact ⟨0, [], _, _, rfl, Nat.zero_le _, rfl, HOK.nil, by simp, HR2.out.mono (fun j _ hj => Nat.le_trans HF1.out.size hj), HF2.out⟩
  case round =>
    obtain ⟨k, L, lv, m, rfl, hk, hl, hok, ht, hr, hf⟩ := hrel
    have HL := Lib.hid hl
    have HR := Lib.hid hr
    have HOKL := Lib.hid hok
    have HT := Lib.hid ht
    have HF := Lib.hid hf
    clear hl hr hok ht hf
    by_cases hlt : k < n
    · obtain rfl := HTS.out.1 (by omega)
      obtain ⟨e0, e1⟩ := HTS.out.2 k hlt
      have d0 := cell_fr HF.out e0 id
      have d1 := cell_fr HF.out e1 id
      clear e0 e1
      generalize ts k = q at *
      obtain ⟨qr, qm⟩ := q
      dsimp only at d0 d1
      go_wp2_with (go_at_call 26; refine (push_any rise_spec (qr, qm) ((HR.out.fr ((Fr.refl (fun _ => False) wr).alloc (.cells #[.int .i64 qr, .int .i64 qm] 52)) (fun _ _ _ h => h)).mono (G := fun j => w.heap.size ≤ j) (fun _ _ h => h)) (by omega) (by omega) (by rw [HL.out]; omega) HT.out (fun _ _ => trivial) trivial (c := 0) trivial (fun _ h => h.elim)).mono ?_; rintro e w4 ⟨rfl, ⟨lv4, m4, hr4⟩, _, hf4⟩; have HR4 := Lib.hid hr4; have HF4 := Lib.hid hf4; clear hr4 hf4)
      go_roundw
      case rel =>
        have hsw := HF.out.size
        refine ⟨k + 1, _, lv4, m4, by go_num, by omega, ?_, pushL_ok _ HOKL.out, fun p hp => ?_, HR4.out.mono (fun j _ hj => hj.elim id (fun h => by simp at h; omega)), (HF.out.alloc _).trans HF4.out (fun j hj h => h.elim (fun h => by omega) (fun h => h.elim))⟩
        · rw [(pushL_perm _ _).length_eq, List.length_append, List.length_singleton, HL.out]
        · rcases List.mem_append.1 ((pushL_perm _ _).mem_iff.1 hp) with hp | hp
          · have := HT.out p hp
            omega
          · simp only [List.mem_singleton] at hp
            subst hp
            show (k : Int) + 1 ≤ ((k + 1 : Nat) : Int)
            omega
      case measure => simp [intOf]; omega
    · obtain rfl : k = n := by omega
      go_wp2_with (fail)
      obtain ⟨n, rfl⟩ : ∃ n, n = k := ⟨_, rfl⟩
      go_loopw [33] (fun s wq => StRel2 w n dn bh bm s wq) (fun s _ => dn - (intOf s).toNat)
      case atStart => exact ⟨0, L, rfl, Nat.zero_le _, ⟨lv, m, HR.out⟩, HOKL.out, by rw [HL.out]; exact Nat.le_refl _, HF.out⟩
      case round =>
        obtain ⟨j, L, rfl, hj, hr, hok, hl, hf⟩ := hrel
        have HR := Lib.hid hr
        have HOKL := Lib.hid hok
        have HF := Lib.hid hf
        have HLL := Lib.hid hl
        clear hr hok hf hl
        by_cases hlt : j < dn
        · obtain rfl := HC.out.1 (by omega)
          obtain ⟨e0, e1, e2, e3, e4⟩ := HC.out.2 j hlt
          have d0 := cell_fr HF.out e0 id
          have d1 := cell_fr HF.out e1 id
          have d2 := cell_fr HF.out e2 id
          have d3 := cell_fr HF.out e3 id
          have d4 := cell_fr HF.out e4 id
          clear e0 e1 e2 e3 e4
          generalize th j = q at *
          obtain ⟨qk, qa, qt, qr, qm⟩ := q
          dsimp only at d0 d1 d2 d3 d4
          have hN : n ≤ 8796093022208 := by omega
          have hsb : SB w n bh bm (n : Int) L (.slice none 0 0) [] wr.heap.size (.cells #[.int .i64 qk, .int .i64 qa, .int .i64 qt, .int .i64 qr, .int .i64 qm] 55 (0, 0)) (wr.alloc (.cells #[.int .i64 qk, .int .i64 qa, .int .i64 qt, .int .i64 qr, .int .i64 qm] 55)) := by
            have f1 : Fr (fun _ => False) wr (wr.alloc (.cells #[.int .i64 qk, .int .i64 qa, .int .i64 qt, .int .i64 qr, .int .i64 qm] 55)) := (Fr.refl _ _).alloc _
            obtain ⟨lv, m, hr⟩ := HR.out
            exact ⟨⟨lv, m, hr.fr f1 (fun _ _ _ h => h)⟩, HOKL.out, HLL.out, ri_nil _, (fun k hk => by cases hk), heap_alloc_eq _ _, HF.out.trans f1 (fun _ _ h => h)⟩
          have HS := Lib.hid hsb
          have HND : Hid ((L.map Prod.fst).Nodup) := Lib.hid (by obtain ⟨lv, m, hr⟩ := HR.out; exact rep_nodup hr)
          have hbl : (orderL kRise L).length ≤ 8796093022208 := by rw [(orderL_perm L).length_eq]; have := HLL.out; omega
          clear hsb
          generalize htn : qt % ((n : Int) + 2) = tn at *
          have HTN := Lib.hid htn
          clear htn
          have hb9 : wr.heap.size < (wr.alloc (.cells #[.int .i64 qk, .int .i64 qa, .int .i64 qt, .int .i64 qr, .int .i64 qm] 55)).heap.size := by simp
          rcases ticket_in L tn with hno | ⟨i, a, hi, hat⟩
          · have HNI := Lib.hid hno
            clear hno
            by_cases hpar : qk.tmod 2 = 0
            · have hp1 : (qk.tmod 2 == 0) = true := by simpa using hpar
              have hp2 : (qk.tmod 2 != 0) = false := by simpa using hpar
              clear hpar
              have hl2 := hbl
              go_wp2_with (first
                | (go_at_call 18; refine (among_any qt ((n : Int) + 2) _ (by omega) (by omega)).mono ?_; rintro e w3 ⟨rfl, rfl⟩; rw [HTN.out])
                | (go_at_call 36; refine (sb_order HS2.out hN).mono ?_; rintro e w7 ⟨v7, rfl, hs7, _, hri7⟩; have HS3 := Lib.hid hs7; have HRI7 := Lib.hid hri7; clear hs7 hri7)
                | (go_at_call 36; refine (sb_order HS.out hN).mono ?_; rintro e w4 ⟨v4, rfl, _, hs4, _⟩; have HS0 := Lib.hid hs4; clear hs4)
                | (go_at_call 37; refine (sb_get_none HS6.out HNI.out).mono ?_; rintro e w12 ⟨rfl, hs12⟩; have HS7 := Lib.hid (hs12.kept ((Fr.refl (fun _ => False) w12).alloc (.cells #[.int .i64 0, .int .i64 0] 52))); have z0 := cell_is HS7.out.bx 0 rfl; have z3 := cell_is HS7.out.bx 3 rfl; have z4 := cell_is HS7.out.bx 4 rfl; clear hs12)
                | (go_at_call 37; refine (sb_get_none HS0.out HNI.out).mono ?_; rintro e w5 ⟨rfl, hs5⟩; have HS1 := Lib.hid (hs5.kept ((Fr.refl (fun _ => False) w5).alloc (.cells #[.int .i64 0, .int .i64 0] 52))); have x0 := cell_is HS1.out.bx 0 rfl; have x3 := cell_is HS1.out.bx 3 rfl; have x4 := cell_is HS1.out.bx 4 rfl; clear hs5)
                | (go_at_call 28; refine (sb_remove_none HS1.out HNI.out).mono ?_; rintro e w6 ⟨rfl, hs6⟩; have HS2 := Lib.hid (hs6.kept ((Fr.refl (fun _ => False) w6).alloc (.cells #[.int .i64 0, .int .i64 0] 52))); clear hs6)
                | (go_at_call_of 39 v7; refine (without_any v7 tn _ w7 HRI7.out (by rw [List.length_map]; exact hl2)).mono ?_; rintro e w8 ⟨v8, rfl, ho8, hf8⟩; have HO8 := Lib.hid ho8; have HS4 := Lib.hid (HS3.out.kept hf8); clear ho8 hf8)
                | (go_at_call_of 39 v4; refine (without_any v4 tn _ w8 HS4.out.ri (by rw [List.length_map]; exact hbl)).mono ?_; rintro e w9 ⟨v9, rfl, ho9, hf9⟩; have HO8' := Lib.hid (HO8.out.fr hf9 (fun _ _ _ h => h)); have HO9 := Lib.hid ho9; have HS5 := Lib.hid (HS4.out.kept hf9); clear ho9 hf9)
                | (go_at_call 38; refine (same_eq v8 v9 _ w9 (own_ri HO8'.out (flt_le (by rw [List.length_map]; exact hl2))) (own_ri HO9.out (flt_le (by rw [List.length_map]; exact hbl)))).mono ?_; rintro e w10 ⟨rfl, n10, rfl⟩; have HS6 := Lib.hid (HS5.out.kept ((Fr.refl _ _).drewN n10))))
              go_roundw
              case rel => exact ⟨j + 1, L, by go_num, by omega, HS7.out.h, HS7.out.ok, HS7.out.len, HS7.out.fr⟩
              case measure => simp [intOf]; omega
            · have hp1 : (qk.tmod 2 == 0) = false := by simpa using hpar
              have hp2 : (qk.tmod 2 != 0) = true := by simpa using hpar
              clear hpar
              have hl2 := hbl
              go_wp2_with (first
                | (go_at_call 18; refine (among_any qt ((n : Int) + 2) _ (by omega) (by omega)).mono ?_; rintro e w3 ⟨rfl, rfl⟩; rw [HTN.out])
                | (go_at_call 36; refine (sb_order HS2.out hN).mono ?_; rintro e w7 ⟨v7, rfl, hs7, _, hri7⟩; have HS3 := Lib.hid hs7; have HRI7 := Lib.hid hri7; clear hs7 hri7)
                | (go_at_call 36; refine (sb_order HS.out hN).mono ?_; rintro e w4 ⟨v4, rfl, _, hs4, _⟩; have HS0 := Lib.hid hs4; clear hs4)
                | (go_at_call 37; refine (sb_get_none HS6.out HNI.out).mono ?_; rintro e w12 ⟨rfl, hs12⟩; have HS7 := Lib.hid (hs12.kept ((Fr.refl (fun _ => False) w12).alloc (.cells #[.int .i64 0, .int .i64 0] 52))); have z0 := cell_is HS7.out.bx 0 rfl; have z3 := cell_is HS7.out.bx 3 rfl; have z4 := cell_is HS7.out.bx 4 rfl; clear hs12)
                | (go_at_call 37; refine (sb_get_none HS0.out HNI.out).mono ?_; rintro e w5 ⟨rfl, hs5⟩; have HS1 := Lib.hid (hs5.kept ((Fr.refl (fun _ => False) w5).alloc (.cells #[.int .i64 0, .int .i64 0] 52))); have x0 := cell_is HS1.out.bx 0 rfl; have x3 := cell_is HS1.out.bx 3 rfl; have x4 := cell_is HS1.out.bx 4 rfl; clear hs5)
                | (go_at_call 29; refine (sb_change_none HS1.out (qr, qm) HNI.out).mono ?_; rintro e w6 ⟨rfl, hs6⟩; have HS2 := Lib.hid hs6; clear hs6)
                | (go_at_call_of 39 v7; refine (without_any v7 tn _ w7 HRI7.out (by rw [List.length_map]; exact hl2)).mono ?_; rintro e w8 ⟨v8, rfl, ho8, hf8⟩; have HO8 := Lib.hid ho8; have HS4 := Lib.hid (HS3.out.kept hf8); clear ho8 hf8)
                | (go_at_call_of 39 v4; refine (without_any v4 tn _ w8 HS4.out.ri (by rw [List.length_map]; exact hbl)).mono ?_; rintro e w9 ⟨v9, rfl, ho9, hf9⟩; have HO8' := Lib.hid (HO8.out.fr hf9 (fun _ _ _ h => h)); have HO9 := Lib.hid ho9; have HS5 := Lib.hid (HS4.out.kept hf9); clear ho9 hf9)
                | (go_at_call 38; refine (same_eq v8 v9 _ w9 (own_ri HO8'.out (flt_le (by rw [List.length_map]; exact hl2))) (own_ri HO9.out (flt_le (by rw [List.length_map]; exact hbl)))).mono ?_; rintro e w10 ⟨rfl, n10, rfl⟩; have HS6 := Lib.hid (HS5.out.kept ((Fr.refl _ _).drewN n10))))
              go_roundw
              case rel => exact ⟨j + 1, L, by go_num, by omega, HS7.out.h, HS7.out.ok, HS7.out.len, HS7.out.fr⟩
              case measure => simp [intOf]; omega
          · obtain ⟨at', r0, m0⟩ := a
            dsimp only at hat
            subst hat
            have HI := Lib.hid hi
            clear hi
            by_cases hpar : qk.tmod 2 = 0
            · have hp1 : (qk.tmod 2 == 0) = true := by simpa using hpar
              have hp2 : (qk.tmod 2 != 0) = false := by simpa using hpar
              clear hpar
              have HNO := Lib.hid (take_no HI.out HND.out)
              have HOO := Lib.hid (order_take HI.out HND.out HOKL.out)
              have hl2 : (orderL kRise (takeL kRise L i)).length ≤ 8796093022208 := by
                rw [(orderL_perm _).length_eq]
                have := (takeL_perm (key := kRise) HI.out).length_eq
                rw [List.length_cons] at this
                have := HLL.out
                omega
              go_wp2_with (first
                | (go_at_call 18; refine (among_any qt ((n : Int) + 2) _ (by omega) (by omega)).mono ?_; rintro e w3 ⟨rfl, rfl⟩; rw [HTN.out])
                | (go_at_call 36; refine (sb_order HS2.out hN).mono ?_; rintro e w7 ⟨v7, rfl, hs7, _, hri7⟩; have HS3 := Lib.hid hs7; have HRI7 := Lib.hid hri7; clear hs7 hri7)
                | (go_at_call 36; refine (sb_order HS.out hN).mono ?_; rintro e w4 ⟨v4, rfl, _, hs4, _⟩; have HS0 := Lib.hid hs4; clear hs4)
                | (go_at_call 37; refine (sb_get_none HS6.out HNO.out).mono ?_; rintro e w12 ⟨rfl, hs12⟩; have HS7 := Lib.hid (hs12.kept ((Fr.refl (fun _ => False) w12).alloc (.cells #[.int .i64 0, .int .i64 0] 52))); have z0 := cell_is HS7.out.bx 0 rfl; have z3 := cell_is HS7.out.bx 3 rfl; have z4 := cell_is HS7.out.bx 4 rfl; clear hs12)
                | (go_at_call 37; refine (sb_get_some HS0.out HI.out).mono ?_; rintro e w5 ⟨rfl, hs5⟩; have HS1 := Lib.hid (hs5.kept ((Fr.refl (fun _ => False) w5).alloc (.cells #[.int .i64 r0, .int .i64 m0] 52))); have x0 := cell_is HS1.out.bx 0 rfl; have x3 := cell_is HS1.out.bx 3 rfl; have x4 := cell_is HS1.out.bx 4 rfl; clear hs5)
                | (go_at_call 28; refine (sb_remove_some HS1.out hN HI.out).mono ?_; rintro e w6 ⟨rfl, hs6⟩; have HS2 := Lib.hid (hs6.kept ((Fr.refl (fun _ => False) w6).alloc (.cells #[.int .i64 r0, .int .i64 m0] 52))); clear hs6)
                | (go_at_call_of 39 v7; refine (without_any v7 at' _ w7 HRI7.out (by rw [List.length_map]; exact hl2)).mono ?_; rintro e w8 ⟨v8, rfl, ho8, hf8⟩; have HO8 := Lib.hid ho8; have HS4 := Lib.hid (HS3.out.kept hf8); clear ho8 hf8)
                | (go_at_call_of 39 v4; refine (without_any v4 at' _ w8 HS4.out.ri (by rw [List.length_map]; exact hbl)).mono ?_; rintro e w9 ⟨v9, rfl, ho9, hf9⟩; have HO8' := Lib.hid (HO8.out.fr hf9 (fun _ _ _ h => h)); have HO9 := Lib.hid ho9; have HS5 := Lib.hid (HS4.out.kept hf9); clear ho9 hf9)
                | (go_at_call 38; refine (same_eq v8 v9 _ w9 (own_ri HO8'.out (flt_le (by rw [List.length_map]; exact hl2))) (by rw [HOO.out]; exact own_ri HO9.out (flt_le (by rw [List.length_map]; exact hbl)))).mono ?_; rintro e w10 ⟨rfl, n10, rfl⟩; have HS6 := Lib.hid (HS5.out.kept ((Fr.refl _ _).drewN n10))))
              go_roundw
              case rel => exact ⟨j + 1, takeL kRise L i, by go_num, by omega, HS7.out.h, HS7.out.ok, HS7.out.len, HS7.out.fr⟩
              case measure => simp [intOf]; omega
            · have hp1 : (qk.tmod 2 == 0) = false := by simpa using hpar
              have hp2 : (qk.tmod 2 != 0) = true := by simpa using hpar
              clear hpar
              obtain ⟨ci, hca⟩ := change_at HI.out (qr, qm)
              have HCA := Lib.hid hca
              clear hca
              have HOO := Lib.hid (order_change HI.out HND.out HOKL.out (qr, qm))
              have hl2 : (orderL kRise (settleL kRise (L.set i (at', (qr, qm))) i)).length ≤ 8796093022208 := by
                rw [(orderL_perm _).length_eq, settleL_length, List.length_set]
                have := HLL.out
                omega
              have hneq := fun W : World => neq_thing W qr qm
              go_wp2_with (first
                | (go_at_call 18; refine (among_any qt ((n : Int) + 2) _ (by omega) (by omega)).mono ?_; rintro e w3 ⟨rfl, rfl⟩; rw [HTN.out])
                | (go_at_call 36; refine (sb_order HS2.out hN).mono ?_; rintro e w7 ⟨v7, rfl, hs7, _, hri7⟩; have HS3 := Lib.hid hs7; have HRI7 := Lib.hid hri7; clear hs7 hri7)
                | (go_at_call 36; refine (sb_order HS.out hN).mono ?_; rintro e w4 ⟨v4, rfl, _, hs4, _⟩; have HS0 := Lib.hid hs4; clear hs4)
                | (go_at_call 37; refine (sb_get_some HS6.out HCA.out).mono ?_; rintro e w12 ⟨rfl, hs12⟩; have HS7 := Lib.hid (hs12.kept ((Fr.refl (fun _ => False) w12).alloc (.cells #[.int .i64 qr, .int .i64 qm] 52))); have z0 := cell_is HS7.out.bx 0 rfl; have z3 := cell_is HS7.out.bx 3 rfl; have z4 := cell_is HS7.out.bx 4 rfl; clear hs12)
                | (go_at_call 37; refine (sb_get_some HS0.out HI.out).mono ?_; rintro e w5 ⟨rfl, hs5⟩; have HS1 := Lib.hid (hs5.kept ((Fr.refl (fun _ => False) w5).alloc (.cells #[.int .i64 r0, .int .i64 m0] 52))); have x0 := cell_is HS1.out.bx 0 rfl; have x3 := cell_is HS1.out.bx 3 rfl; have x4 := cell_is HS1.out.bx 4 rfl; clear hs5)
                | (go_at_call 29; refine (sb_change_some HS1.out hN (qr, qm) HI.out).mono ?_; rintro e w6 ⟨rfl, hs6⟩; have HS2 := Lib.hid hs6; clear hs6)
                | (go_at_call_of 39 v7; refine (without_any v7 at' _ w7 HRI7.out (by rw [List.length_map]; exact hl2)).mono ?_; rintro e w8 ⟨v8, rfl, ho8, hf8⟩; have HO8 := Lib.hid ho8; have HS4 := Lib.hid (HS3.out.kept hf8); clear ho8 hf8)
                | (go_at_call_of 39 v4; refine (without_any v4 at' _ w8 HS4.out.ri (by rw [List.length_map]; exact hbl)).mono ?_; rintro e w9 ⟨v9, rfl, ho9, hf9⟩; have HO8' := Lib.hid (HO8.out.fr hf9 (fun _ _ _ h => h)); have HO9 := Lib.hid ho9; have HS5 := Lib.hid (HS4.out.kept hf9); clear ho9 hf9)
                | (go_at_call 38; refine (same_eq v8 v9 _ w9 (own_ri HO8'.out (flt_le (by rw [List.length_map]; exact hl2))) (by rw [HOO.out]; exact own_ri HO9.out (flt_le (by rw [List.length_map]; exact hbl)))).mono ?_; rintro e w10 ⟨rfl, n10, rfl⟩; have HS6 := Lib.hid (HS5.out.kept ((Fr.refl _ _).drewN n10))))
              go_roundw
              case rel => exact ⟨j + 1, settleL kRise (L.set i (at', (qr, qm))) i, by go_num, by omega, HS7.out.h, HS7.out.ok, HS7.out.len, HS7.out.fr⟩
              case measure => simp [intOf]; omega
        · go_wp2_with (fail)
          go_ret
          exact ⟨rfl, HF.out⟩

end Go.Proofs.Ytikimfdijkejpaa
