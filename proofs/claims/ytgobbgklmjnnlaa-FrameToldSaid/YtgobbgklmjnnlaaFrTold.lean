/- FrameTold, walked. -/
import Derived.Test.YtgobbgklmjnnlaaFrTold0
namespace Go.Proofs.Ytgobbgklmjnnlaa
open Go.RowKit Go.Sb

def ToldRel (w : World) (bo : Obj) (bx g c n first bits F B : Nat) (fr : List UInt8) (any i : Value) (wr : World) : Prop :=
  ∃ (k : Nat) (zs : List UInt8), i = .int .i64 (k : Int) ∧ any = .bool (anyFlip bits F B k) ∧ k ≤ 32 ∧ zs.length = n ∧ (∀ i, i < 8 * n → bitAt zs i = (bitAt fr i ^^ turned first bits F B k i)) ∧
    OB 5 (fun x => bx < x) wr (.slice (some ⟨g, 0, none⟩) n c) zs ∧ wr.heap[bx]? = some bo ∧ Fr (fun _ => False) w wr

theorem turned_zero (first bits F B i : Nat) : turned first bits F B 0 i = false := by
  unfold turned
  rw [decide_eq_false (by omega)]
  simp

theorem flip_true {bits F B j : Nat} (h : flip bits F B j = true) : F + j < bits ∧ B.testBit j = true := by
  unfold flip at h
  simpa using h

theorem bit_test (B k : Nat) (hB : B < 4294967296) : (bits .and .u32 ((B : Int) / 2 ^ k) 1 == 0) = !B.testBit k := by
  have e : (B : Int) / 2 ^ k = ((BitVec.ofNat 32 (B / 2 ^ k)).toNat : Int) := by
    have hlt : B / 2 ^ k < 4294967296 := Nat.lt_of_le_of_lt (Nat.div_le_self _ _) hB
    rw [BitVec.toNat_ofNat, Nat.mod_eq_of_lt hlt]
    simp
  have h1 : (1 : Int) = ((1#32).toNat : Int) := rfl
  rw [e, h1, bits_and32]
  have hlt : B / 2 ^ k < 4294967296 := Nat.lt_of_le_of_lt (Nat.div_le_self _ _) hB
  have h2 : (BitVec.ofNat 32 (B / 2 ^ k) &&& 1#32).toNat = B / 2 ^ k % 2 := by
    rw [BitVec.toNat_and, BitVec.toNat_ofNat, Nat.mod_eq_of_lt hlt]
    exact Nat.and_one_is_mod _
  rw [h2, Nat.testBit_eq_decide_div_mod_eq]
  rcases Nat.mod_two_eq_zero_or_one (B / 2 ^ k) with h | h <;> simp [h]

theorem turn_val (x : UInt8) (t : Nat) (ht : t < 8) : bits .xor .u8 (x.toNat : Int) ((2 : Int) ^ t % 256) = ((x ^^^ (1 <<< UInt8.ofNat t)).toNat : Int) := by
  have h : ∀ t : Fin 8, ∀ x : BitVec 8, bits .xor .u8 ((UInt8.ofBitVec x).toNat : Int) ((2 : Int) ^ t.1 % 256) = ((UInt8.ofBitVec x ^^^ (1 <<< UInt8.ofNat t.1)).toNat : Int) := by decide +kernel
  exact h ⟨t, ht⟩ x.toBitVec

theorem ToldRel.turn {w wr : World} {bo : Obj} {bx g c n first bits F B k : Nat} {fr zs : List UInt8} (hk : k < 32) (hz : zs.length = n) (hb : ∀ i, i < 8 * n → bitAt zs i = (bitAt fr i ^^ turned first bits F B k i))
    (hv : OB 5 (fun x => bx < x) wr (.slice (some ⟨g, 0, none⟩) n c) zs) (hbo : wr.heap[bx]? = some bo) (hfr : Fr (fun _ => False) w wr) (hbx : w.heap.size = bx) (hfl : flip bits F B k = true) (hin : first + (F + k) / 8 < zs.length) :
    ToldRel w bo bx g c n first bits F B fr (.bool true) (.int .i64 ((k : Int) + 1)) (wr.setCell ⟨g, first + (F + k) / 8, none⟩ (byte (zs[first + (F + k) / 8]'hin ^^^ (1 <<< UInt8.ofNat ((F + k) % 8))))).drew := by
  have hg := (Own.block hv g rfl).1
  have hg' : bx < g := hg
  refine ⟨k + 1, zs.set (first + (F + k) / 8) (zs[first + (F + k) / 8]'hin ^^^ (1 <<< UInt8.ofNat ((F + k) % 8))), rfl, by rw [anyFlip_succ, hfl]; simp, hk, by simpa using hz, ?_, ?_, ?_, (hfr.setCell (.inr (by rw [hbx]; exact Nat.le_of_lt hg')) _).drew⟩
  · exact turn_step hz hb hfl rfl rfl (by rw [← hz]; exact hin) _ _ rfl rfl
  · show OB 5 _ (wr.setCell _ _) _ _
    unfold OB
    rw [List.length_set, List.map_set, hz]
    unfold OB at hv
    rw [hz] at hv
    exact Own.set hv rfl (by rw [← hz]; exact hin)
  · show (wr.setCell _ _).heap[bx]? = _
    rw [heap_setCell_ne _ _ _ _ (by intro h; simp at h; omega)]
    exact hbo

def boxT (file place : Int) (a : Option Addr) (n c : Nat) (ins : Bool) (F B : Int) : Obj := .cells #[.int .i64 file, .int .i64 place, .slice a n c, .bool ins, .int .i64 F, .int .u32 B] 41

theorem box_cells {file place : Int} {a : Option Addr} {n c : Nat} {ins : Bool} {F B : Int} {w : World} {bx : Nat} (h : w.heap[bx]? = some (boxT file place a n c ins F B)) :
    w.cell? ⟨bx, 0, none⟩ = some (.int .i64 file) ∧ w.cell? ⟨bx, 1, none⟩ = some (.int .i64 place) ∧ w.cell? ⟨bx, 2, none⟩ = some (.slice a n c) ∧ w.cell? ⟨bx, 3, none⟩ = some (.bool ins) ∧ w.cell? ⟨bx, 4, none⟩ = some (.int .i64 F) ∧
      w.cell? ⟨bx, 5, none⟩ = some (.int .u32 B) :=
  ⟨cell_is h 0 rfl, cell_is h 1 rfl, cell_is h 2 rfl, cell_is h 3 rfl, cell_is h 4 rfl, cell_is h 5 rfl⟩

set_option maxRecDepth 100000 in
set_option maxHeartbeats 1000000 in
theorem told_no (file place : Int) (v2 : Value) (ins : Bool) (F B : Int) (ps : List UInt8) (w : World) (h2 : RB w v2 ps) (h : ¬ (Placed file ∧ Placed place ∧ 0 < ps.length ∧ ps.length ≤ 66000)) :
    Calls Try.prog 7 #[.agg #[.int .i64 file, .int .i64 place, v2, .bool ins, .int .i64 F, .int .u32 B]] w fun e w' => e = .returned (.bool true) ∧ Fr (fun _ => False) w w' := by
  have H2 := Lib.hid h2
  obtain ⟨a2, c2, rfl, _⟩ := h2
  go_enter Try.func7, Try.ntmps7
  go_wp2_with (fail)
  refine (shown_any _).mono ?_
  rintro e w1 ⟨rfl, hf1⟩
  have hb1 : w1.heap[w.heap.size]? = some (boxT file place a2 ps.length c2 ins F B) := hf1.get (heap_alloc_eq _ _) (fun h => h)
  have HF1 := Lib.hid (((Fr.refl (fun _ => False) w).alloc _).trans hf1 (fun _ _ h => h))
  have HB1 := Lib.hid hb1
  obtain ⟨k0, k1, k2, k3, k4, k5⟩ := box_cells hb1
  clear hf1 hb1
  generalize w.heap.size = bx at *
  go_wp2_with (fail)
  have hm := make_any file place _ ps w1 (H2.out.fr HF1.out)
  rw [mans_err rfl (errM_not h)] at hm
  have hne : (errM file place ps == 0) = false := by simpa using errM_not h
  refine hm.mono ?_
  rintro e w2 ⟨v4, rfl, hv4, hf2⟩
  have HF2 := Lib.hid (none_fr HF1.out hf2)
  have HM := Lib.hid (may_no file place a2 ps.length c2 w2 h)
  have hb2 := hf2.get HB1.out (fun h => h)
  clear k0 k1 k2 k3 k4 k5
  obtain ⟨k0, k1, k2, k3, k4, k5⟩ := box_cells hb2
  clear hv4 hf2 hm h hb2
  generalize errM file place ps = E at *
  have hne2 : (E != 0) = true := by simpa using hne
  go_wp2_with (fail)
  refine HM.out.mono ?_
  rintro e w3 ⟨rfl, rfl⟩
  go_wp2_with (fail)
  go_ret
  exact ⟨rfl, HF2.out⟩

set_option maxRecDepth 100000 in
set_option maxHeartbeats 1000000 in
theorem told_neg (file place : Int) (v2 : Value) (ins : Bool) (F B : Int) (ps : List UInt8) (w : World) (h2 : RB w v2 ps) (h : Placed file ∧ Placed place ∧ 0 < ps.length ∧ ps.length ≤ 66000) (hF : F < 0) :
    Calls Try.prog 7 #[.agg #[.int .i64 file, .int .i64 place, v2, .bool ins, .int .i64 F, .int .u32 B]] w fun e w' => e = .returned (.bool true) ∧ Fr (fun _ => False) w w' := by
  have H2 := Lib.hid h2
  obtain ⟨a2, c2, rfl, _⟩ := h2
  go_enter Try.func7, Try.ntmps7
  go_wp2_with (fail)
  refine (shown_any _).mono ?_
  rintro e w1 ⟨rfl, hf1⟩
  have hb1 : w1.heap[w.heap.size]? = some (boxT file place a2 ps.length c2 ins F B) := hf1.get (heap_alloc_eq _ _) (fun h => h)
  have HF1 := Lib.hid (((Fr.refl (fun _ => False) w).alloc _).trans hf1 (fun _ _ h => h))
  have HB1 := Lib.hid hb1
  obtain ⟨k0, k1, k2, k3, k4, k5⟩ := box_cells hb1
  clear hf1 hb1
  generalize w.heap.size = bx at *
  go_wp2_with (fail)
  have hm := make_any file place _ ps w1 (H2.out.fr HF1.out)
  rw [mans_ok (errM_may h)] at hm
  refine hm.mono ?_
  rintro e w2 ⟨v4, rfl, hv4, hf2⟩
  have HF2 := Lib.hid (none_fr HF1.out hf2)
  have HM := Lib.hid (may_yes file place a2 ps.length c2 w2 h.1 h.2.1 h.2.2.1 h.2.2.2)
  have hb2 := hf2.get HB1.out (fun h => h)
  clear k0 k1 k2 k3 k4 k5
  obtain ⟨k0, k1, k2, k3, k4, k5⟩ := box_cells hb2
  obtain ⟨a4, c4, rfl, _⟩ := hv4.rb
  rw [frame_len]
  clear hv4 hf2 hm hb2
  have hne1 : (((8 + ps.length : Nat) : Int) != (ps.length : Int) + 8) = false := by simp; omega
  have hne2 : (((8 + ps.length : Nat) : Int) == (ps.length : Int) + 8) = true := by simp; omega
  obtain ⟨_, _, _, hl⟩ := h
  go_wp2_with (fail)
  refine HM.out.mono ?_
  rintro e w3 ⟨rfl, rfl⟩
  go_wp2_with (fail)
  go_ret
  exact ⟨rfl, HF2.out⟩

set_option maxRecDepth 100000 in
set_option maxHeartbeats 1000000 in
theorem told_yes (file place : Nat) (v2 : Value) (F B : Nat) (ps : List UInt8) (w : World) (h2 : RB w v2 ps) (hf : file ≤ 4611686018427387903) (hp : place ≤ 4611686018427387903) (h0 : 0 < ps.length) (h1 : ps.length ≤ 66000) (hF : F ≤ 9223372036854775807) (hB : B < 4294967296) :
    Calls Try.prog 7 #[.agg #[.int .i64 (file : Int), .int .i64 (place : Int), v2, .bool false, .int .i64 (F : Int), .int .u32 (B : Int)]] w fun e w' => e = .returned (.bool true) ∧ Fr (fun _ => False) w w' := by
  have H2 := Lib.hid h2
  obtain ⟨a2, c2, rfl, _⟩ := h2
  have h : Placed (file : Int) ∧ Placed (place : Int) ∧ 0 < ps.length ∧ ps.length ≤ 66000 := ⟨⟨by omega, by omega⟩, ⟨by omega, by omega⟩, h0, h1⟩
  go_enter Try.func7, Try.ntmps7
  go_wp2_with (fail)
  refine (shown_any _).mono ?_
  rintro e w1 ⟨rfl, hf1⟩
  have hb1 : w1.heap[w.heap.size]? = some (boxT file place a2 ps.length c2 false F B) := hf1.get (heap_alloc_eq _ _) (fun h => h)
  have HF1 := Lib.hid (((Fr.refl (fun _ => False) w).alloc _).trans hf1 (fun _ _ h => h))
  have HB1 := Lib.hid hb1
  obtain ⟨k0, k1, k2, k3, k4, k5⟩ := box_cells hb1
  clear hf1 hb1
  generalize hbx : w.heap.size = bx at *
  have HBX := Lib.hid hbx
  have hlt1 : bx < w1.heap.size := lt_of_heap HB1.out
  clear hbx
  go_wp2_with (fail)
  have hm := make_any file place _ ps w1 (H2.out.fr HF1.out)
  rw [mans_ok (errM_may h)] at hm
  refine hm.mono ?_
  rintro e w2 ⟨v4, rfl, hv4, hf2⟩
  have HF2 := Lib.hid (none_fr HF1.out hf2)
  have HM := Lib.hid (may_yes file place a2 ps.length c2 w2 h.1 h.2.1 h.2.2.1 h.2.2.2)
  have hb2 := hf2.get HB1.out (fun h => h)
  clear k0 k1 k2 k3 k4 k5
  obtain ⟨k0, k1, k2, k3, k4, k5⟩ := box_cells hb2
  simp only [Int.toNat_natCast] at hv4
  have hlen := frame_len file place ps
  obtain ⟨g, c, rfl, hc1, hc2⟩ := Own.some hv4 (by omega)
  rw [hlen] at hv4 ⊢
  have HV4 := Lib.hid hv4
  have HB2 := Lib.hid hb2
  clear hv4 hf2 hm hb2 h
  have hne1 : (((8 + ps.length : Nat) : Int) != (ps.length : Int) + 8) = false := by simp; omega
  have hne2 : (((8 + ps.length : Nat) : Int) == (ps.length : Int) + 8) = true := by simp; omega
  go_wp2_with (fail)
  refine HM.out.mono ?_
  rintro e w3 ⟨rfl, rfl⟩
  go_wp2_with (fail)
  have HS := Lib.hid (show ToldRel w (boxT file place a2 ps.length c2 false F B) bx g c (8 + ps.length) 8 (8 * ps.length) F B (frameOf file place ps) (.bool false) (.int .i64 0) w2 from
    ⟨0, frameOf file place ps, rfl, by simp [anyFlip], by omega, hlen, fun i _ => by rw [turned_zero]; simp, OB.mono HV4.out (fun k _ hk => Nat.lt_of_lt_of_le hlt1 hk), HB2.out, HF2.out⟩)
  clear k0 k1 k2 k3 k4 k5 hlen
  go_loopw [7, 8] (fun any i wr => ToldRel w (boxT file place a2 ps.length c2 false F B) bx g c (8 + ps.length) 8 (8 * ps.length) F B (frameOf file place ps) any i wr) (fun _ i _ => 32 - (intOf i).toNat)
  case atStart => exact HS.out
  case round =>
    obtain ⟨k, zs, rfl, rfl, hk, hz, hb, hv, hbo, hfr⟩ := hrel
    obtain ⟨k0, k1, k2, k3, k4, k5⟩ := box_cells hbo
    have HZ := Lib.hid hz
    have HBT := Lib.hid hb
    have HV := Lib.hid hv
    have HBO := Lib.hid hbo
    have HFR := Lib.hid hfr
    clear hz hb hv hbo hfr HS
    by_cases hlt : k < 32
    · by_cases hfl : flip (8 * ps.length) F B k = true
      · obtain ⟨hb1, hb2⟩ := flip_true hfl
        have hin : ¬ (((ps.length : Int) * 8) - (k : Int) ≤ (F : Int)) := by omega
        have hbt : (bits .and .u32 ((B : Int) / 2 ^ k) 1 == 0) = false := by rw [bit_test B k hB, hb2]; rfl
        go_wp2_with (fail)
        have hql : 8 + (F + k) / 8 < zs.length := by have := HZ.out; omega
        have hcell : wr.cell? ⟨g, 8 + (F + k) / 8, none⟩ = some (byte (zs[8 + (F + k) / 8]'hql)) := Own.cell HV.out rfl (by rw [List.getElem?_map, List.getElem?_eq_getElem hql]; rfl)
        have hfz := Own.frozen HV.out rfl (8 + (F + k) / 8)
        have HX := Lib.hid (ToldRel.turn hlt HZ.out HBT.out HV.out HBO.out HFR.out HBX.out hfl hql)
        unfold byte at hcell HX
        generalize zs[8 + (F + k) / 8]'hql = x at *
        have htv := turn_val x ((F + k) % 8) (Nat.mod_lt _ (by omega))
        generalize (x ^^^ (1 <<< UInt8.ofNat ((F + k) % 8))).toNat = y at *
        have HTV := Lib.hid htv
        clear htv
        go_region
        rw [HTV.out]
        go_wp2_with (fail)
        go_roundw
        case rel => exact HX.out
        case measure => simp [intOf]; omega
      · have hfl2 : flip (8 * ps.length) F B k = false := by simpa using hfl
        have HX : Hid (ToldRel w (boxT file place a2 ps.length c2 false F B) bx g c (8 + ps.length) 8 (8 * ps.length) F B (frameOf file place ps) (.bool (anyFlip (8 * ps.length) F B k)) (.int .i64 ((k : Int) + 1)) wr) :=
          ⟨k + 1, zs, rfl, by rw [anyFlip_succ, hfl2]; simp, hlt, HZ.out, turn_stay HBT.out hfl2, HV.out, HBO.out, HFR.out⟩
        by_cases hin : ((ps.length : Int) * 8) - (k : Int) ≤ (F : Int)
        · go_wp2_with (fail)
          go_roundw
          case rel => exact HX.out
          case measure => simp [intOf]; omega
        · have hbt : (bits .and .u32 ((B : Int) / 2 ^ k) 1 == 0) = true := by
            rw [bit_test B k hB]
            unfold flip at hfl2
            rw [decide_eq_true (by omega)] at hfl2
            simpa using hfl2
          go_wp2_with (fail)
          go_roundw
          case rel => exact HX.out
          case measure => simp [intOf]; omega
    · have hk32 : k = 32 := by omega
      subst hk32
      have HT := Lib.hid (told hf hp h0 h1 HZ.out (first := 8) (bits := 8 * ps.length) (F := F) (B := B) (.inl ⟨rfl, rfl⟩) HBT.out)
      have HR := Lib.hid HV.out.rb
      cases ha : anyFlip (8 * ps.length) F B 32 with
      | false =>
        have hzf := HT.out.1 ha
        subst hzf
        obtain ⟨t1, t2, t3⟩ := take_frame (file := (file : Int)) (place := (place : Int)) (f := file) (p := place) ⟨by omega, by omega⟩ ⟨by omega, by omega⟩ (by simp) (by simp) [] h0 h1
        rw [List.append_nil] at t1 t2 t3
        have HT1 := Lib.hid t1
        have HT2 := Lib.hid t2
        have HT3 := Lib.hid t3
        clear t1 t2 t3 ha hf hp h0 h1
        go_wp2_with (fail)
        refine (take_any file place _ _ wr HR.out).mono ?_
        unfold TakeAns
        rw [HT1.out, HT2.out, HT3.out]
        rintro e w9 ⟨v9, rfl, hv9, hf9⟩
        have HF9 := Lib.hid (none_fr HFR.out hf9)
        have HSM := Lib.hid (same_any _ _ _ _ w9 hv9.rb (H2.out.fr HF9.out))
        rw [decide_eq_true rfl] at HSM
        have hb9 := hf9.get HBO.out (fun h => h)
        clear k0 k1 k2 k3 k4 k5 hv9 hf9
        obtain ⟨k0, k1, k2, k3, k4, k5⟩ := box_cells hb9
        clear hb9
        go_wp2_with (fail)
        refine HSM.out.mono ?_
        rintro e w10 ⟨rfl, m, rfl⟩
        go_wp2_with (fail)
        go_ret
        exact ⟨rfl, HF9.out.drewN m⟩
      | true =>
        have HE := Lib.hid (HT.out.2 ha)
        clear ha hf hp h0 h1
        go_wp2_with (fail)
        refine (take_any file place _ _ wr HR.out).mono ?_
        rw [ans_err HE.out (by decide)]
        rintro e w9 ⟨v9, rfl, hv9, hf9⟩
        have HF9 := Lib.hid (none_fr HFR.out hf9)
        obtain ⟨a9, c9, rfl, _⟩ := hv9.rb
        clear hv9 hf9
        go_wp2_with (fail)
        go_ret
        exact ⟨rfl, HF9.out⟩

set_option maxRecDepth 100000 in
set_option maxHeartbeats 1000000 in
theorem told_sum (file place : Nat) (v2 : Value) (F B : Nat) (ps : List UInt8) (w : World) (h2 : RB w v2 ps) (hf : file ≤ 4611686018427387903) (hp : place ≤ 4611686018427387903) (h0 : 0 < ps.length) (h1 : ps.length ≤ 66000) (hF : F ≤ 9223372036854775807) (hB : B < 4294967296) :
    Calls Try.prog 7 #[.agg #[.int .i64 (file : Int), .int .i64 (place : Int), v2, .bool true, .int .i64 (F : Int), .int .u32 (B : Int)]] w fun e w' => e = .returned (.bool true) ∧ Fr (fun _ => False) w w' := by
  have H2 := Lib.hid h2
  obtain ⟨a2, c2, rfl, _⟩ := h2
  have h : Placed (file : Int) ∧ Placed (place : Int) ∧ 0 < ps.length ∧ ps.length ≤ 66000 := ⟨⟨by omega, by omega⟩, ⟨by omega, by omega⟩, h0, h1⟩
  go_enter Try.func7, Try.ntmps7
  go_wp2_with (fail)
  refine (shown_any _).mono ?_
  rintro e w1 ⟨rfl, hf1⟩
  have hb1 : w1.heap[w.heap.size]? = some (boxT file place a2 ps.length c2 true F B) := hf1.get (heap_alloc_eq _ _) (fun h => h)
  have HF1 := Lib.hid (((Fr.refl (fun _ => False) w).alloc _).trans hf1 (fun _ _ h => h))
  have HB1 := Lib.hid hb1
  obtain ⟨k0, k1, k2, k3, k4, k5⟩ := box_cells hb1
  clear hf1 hb1
  generalize hbx : w.heap.size = bx at *
  have HBX := Lib.hid hbx
  have hlt1 : bx < w1.heap.size := lt_of_heap HB1.out
  clear hbx
  go_wp2_with (fail)
  have hm := make_any file place _ ps w1 (H2.out.fr HF1.out)
  rw [mans_ok (errM_may h)] at hm
  refine hm.mono ?_
  rintro e w2 ⟨v4, rfl, hv4, hf2⟩
  have HF2 := Lib.hid (none_fr HF1.out hf2)
  have HM := Lib.hid (may_yes file place a2 ps.length c2 w2 h.1 h.2.1 h.2.2.1 h.2.2.2)
  have hb2 := hf2.get HB1.out (fun h => h)
  clear k0 k1 k2 k3 k4 k5
  obtain ⟨k0, k1, k2, k3, k4, k5⟩ := box_cells hb2
  simp only [Int.toNat_natCast] at hv4
  have hlen := frame_len file place ps
  obtain ⟨g, c, rfl, hc1, hc2⟩ := Own.some hv4 (by omega)
  rw [hlen] at hv4 ⊢
  have HV4 := Lib.hid hv4
  have HB2 := Lib.hid hb2
  clear hv4 hf2 hm hb2 h
  have hne1 : (((8 + ps.length : Nat) : Int) != (ps.length : Int) + 8) = false := by simp; omega
  have hne2 : (((8 + ps.length : Nat) : Int) == (ps.length : Int) + 8) = true := by simp; omega
  go_wp2_with (fail)
  refine HM.out.mono ?_
  rintro e w3 ⟨rfl, rfl⟩
  go_wp2_with (fail)
  have HS := Lib.hid (show ToldRel w (boxT file place a2 ps.length c2 true F B) bx g c (8 + ps.length) 4 32 F B (frameOf file place ps) (.bool false) (.int .i64 0) w2 from
    ⟨0, frameOf file place ps, rfl, by simp [anyFlip], by omega, hlen, fun i _ => by rw [turned_zero]; simp, OB.mono HV4.out (fun k _ hk => Nat.lt_of_lt_of_le hlt1 hk), HB2.out, HF2.out⟩)
  clear k0 k1 k2 k3 k4 k5 hlen
  go_loopw [7, 8] (fun any i wr => ToldRel w (boxT file place a2 ps.length c2 true F B) bx g c (8 + ps.length) 4 32 F B (frameOf file place ps) any i wr) (fun _ i _ => 32 - (intOf i).toNat)
  case atStart => exact HS.out
  case round =>
    obtain ⟨k, zs, rfl, rfl, hk, hz, hb, hv, hbo, hfr⟩ := hrel
    obtain ⟨k0, k1, k2, k3, k4, k5⟩ := box_cells hbo
    have HZ := Lib.hid hz
    have HBT := Lib.hid hb
    have HV := Lib.hid hv
    have HBO := Lib.hid hbo
    have HFR := Lib.hid hfr
    clear hz hb hv hbo hfr HS
    by_cases hlt : k < 32
    · by_cases hfl : flip 32 F B k = true
      · obtain ⟨hb1, hb2⟩ := flip_true hfl
        have hin : ¬ ((32 : Int) - (k : Int) ≤ (F : Int)) := by omega
        have hbt : (bits .and .u32 ((B : Int) / 2 ^ k) 1 == 0) = false := by rw [bit_test B k hB, hb2]; rfl
        go_wp2_with (fail)
        have hql : 4 + (F + k) / 8 < zs.length := by have := HZ.out; omega
        have hcell : wr.cell? ⟨g, 4 + (F + k) / 8, none⟩ = some (byte (zs[4 + (F + k) / 8]'hql)) := Own.cell HV.out rfl (by rw [List.getElem?_map, List.getElem?_eq_getElem hql]; rfl)
        have hfz := Own.frozen HV.out rfl (4 + (F + k) / 8)
        have HX := Lib.hid (ToldRel.turn hlt HZ.out HBT.out HV.out HBO.out HFR.out HBX.out hfl hql)
        unfold byte at hcell HX
        generalize zs[4 + (F + k) / 8]'hql = x at *
        have htv := turn_val x ((F + k) % 8) (Nat.mod_lt _ (by omega))
        generalize (x ^^^ (1 <<< UInt8.ofNat ((F + k) % 8))).toNat = y at *
        have HTV := Lib.hid htv
        clear htv
        go_region
        rw [HTV.out]
        go_wp2_with (fail)
        go_roundw
        case rel => exact HX.out
        case measure => simp [intOf]; omega
      · have hfl2 : flip 32 F B k = false := by simpa using hfl
        have HX : Hid (ToldRel w (boxT file place a2 ps.length c2 true F B) bx g c (8 + ps.length) 4 32 F B (frameOf file place ps) (.bool (anyFlip 32 F B k)) (.int .i64 ((k : Int) + 1)) wr) :=
          ⟨k + 1, zs, rfl, by rw [anyFlip_succ, hfl2]; simp, hlt, HZ.out, turn_stay HBT.out hfl2, HV.out, HBO.out, HFR.out⟩
        by_cases hin : (32 : Int) - (k : Int) ≤ (F : Int)
        · go_wp2_with (fail)
          go_roundw
          case rel => exact HX.out
          case measure => simp [intOf]; omega
        · have hbt : (bits .and .u32 ((B : Int) / 2 ^ k) 1 == 0) = true := by
            rw [bit_test B k hB]
            unfold flip at hfl2
            rw [decide_eq_true (by omega)] at hfl2
            simpa using hfl2
          go_wp2_with (fail)
          go_roundw
          case rel => exact HX.out
          case measure => simp [intOf]; omega
    · have hk32 : k = 32 := by omega
      subst hk32
      have HT := Lib.hid (told hf hp h0 h1 HZ.out (first := 4) (bits := 32) (F := F) (B := B) (.inr ⟨rfl, rfl⟩) HBT.out)
      have HR := Lib.hid HV.out.rb
      cases ha : anyFlip 32 F B 32 with
      | false =>
        have hzf := HT.out.1 ha
        subst hzf
        obtain ⟨t1, t2, t3⟩ := take_frame (file := (file : Int)) (place := (place : Int)) (f := file) (p := place) ⟨by omega, by omega⟩ ⟨by omega, by omega⟩ (by simp) (by simp) [] h0 h1
        rw [List.append_nil] at t1 t2 t3
        have HT1 := Lib.hid t1
        have HT2 := Lib.hid t2
        have HT3 := Lib.hid t3
        clear t1 t2 t3 ha hf hp h0 h1
        go_wp2_with (fail)
        refine (take_any file place _ _ wr HR.out).mono ?_
        unfold TakeAns
        rw [HT1.out, HT2.out, HT3.out]
        rintro e w9 ⟨v9, rfl, hv9, hf9⟩
        have HF9 := Lib.hid (none_fr HFR.out hf9)
        have HSM := Lib.hid (same_any _ _ _ _ w9 hv9.rb (H2.out.fr HF9.out))
        rw [decide_eq_true rfl] at HSM
        have hb9 := hf9.get HBO.out (fun h => h)
        clear k0 k1 k2 k3 k4 k5 hv9 hf9
        obtain ⟨k0, k1, k2, k3, k4, k5⟩ := box_cells hb9
        clear hb9
        go_wp2_with (fail)
        refine HSM.out.mono ?_
        rintro e w10 ⟨rfl, m, rfl⟩
        go_wp2_with (fail)
        go_ret
        exact ⟨rfl, HF9.out.drewN m⟩
      | true =>
        have HE := Lib.hid (HT.out.2 ha)
        clear ha hf hp h0 h1
        go_wp2_with (fail)
        refine (take_any file place _ _ wr HR.out).mono ?_
        rw [ans_err HE.out (by decide)]
        rintro e w9 ⟨v9, rfl, hv9, hf9⟩
        have HF9 := Lib.hid (none_fr HFR.out hf9)
        obtain ⟨a9, c9, rfl, _⟩ := hv9.rb
        clear hv9 hf9
        go_wp2_with (fail)
        go_ret
        exact ⟨rfl, HF9.out⟩


/-- any of them -/
theorem told_any (file place F : Int) (B : Int) (ins : Bool) (v2 : Value) (ps : List UInt8) (w : World) (h2 : RB w v2 ps) (hF : F ≤ 9223372036854775807) (hB0 : 0 ≤ B) (hB : B < 4294967296) :
    Calls Try.prog 7 #[.agg #[.int .i64 file, .int .i64 place, v2, .bool ins, .int .i64 F, .int .u32 B]] w fun e w' => e = .returned (.bool true) ∧ Fr (fun _ => False) w w' := by
  by_cases h : Placed file ∧ Placed place ∧ 0 < ps.length ∧ ps.length ≤ 66000
  · by_cases hn : F < 0
    · exact told_neg file place v2 ins F B ps w h2 h hn
    · obtain ⟨⟨f0, f1⟩, ⟨p0, p1⟩, l0, l1⟩ := h
      obtain ⟨f, rfl⟩ := Int.eq_ofNat_of_zero_le f0
      obtain ⟨p, rfl⟩ := Int.eq_ofNat_of_zero_le p0
      obtain ⟨o, rfl⟩ := Int.eq_ofNat_of_zero_le (show 0 ≤ F by omega)
      obtain ⟨b, rfl⟩ := Int.eq_ofNat_of_zero_le hB0
      cases ins
      · exact told_yes f p v2 o b ps w h2 (by omega) (by omega) l0 l1 (by omega) (by omega)
      · exact told_sum f p v2 o b ps w h2 (by omega) (by omega) l0 l1 (by omega) (by omega)
  · exact told_no file place v2 ins F B ps w h2 h

end Go.Proofs.Ytgobbgklmjnnlaa
