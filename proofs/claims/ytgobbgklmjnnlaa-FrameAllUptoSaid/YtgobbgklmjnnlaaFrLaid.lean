/- Numbers as bytes, the lowest first: 'laid' of the frame, 'low' of the reference. -/
import Derived.Test.YtgobbgklmjnnlaaFrBytes
namespace Go.Proofs.Ytgobbgklmjnnlaa
open Go.RowKit Go.Sb

/-- a number's bytes, the lowest first -/
def le (n : Nat) : Nat → List UInt8
  | 0 => []
  | k + 1 => UInt8.ofNat n :: le (n / 256) k

theorem le_length (n k : Nat) : (le n k).length = k := by
  induction k generalizing n with
  | zero => rfl
  | succ k ih => simp [le, ih]

theorem le_snoc (n k : Nat) : le n (k + 1) = le n k ++ [UInt8.ofNat (n / 256 ^ k)] := by
  induction k generalizing n with
  | zero => simp [le]
  | succ k ih =>
    rw [le, ih, le, List.cons_append]
    congr 3
    rw [Nat.div_div_eq_div_mul, Nat.pow_succ, Nat.mul_comm]

theorem byte_shift (n k : Nat) : Value.int .u8 ((n : Int) / 2 ^ (8 * k) % 256) = byte (UInt8.ofNat (n / 256 ^ k)) := by
  unfold byte
  congr 1
  have e : (2 : Int) ^ (8 * k) = ((256 ^ k : Nat) : Int) := by
    rw [Int.pow_mul, Int.natCast_pow]
    rfl
  have h : (UInt8.ofNat (n / 256 ^ k)).toNat = (n / 256 ^ k) % 256 := UInt8.toNat_ofNat'
  rw [e, h, Int.natCast_emod, Int.natCast_ediv]
  rfl

/-- After k of them are laid: the rest is zero. -/
def LaidRel (w0 : World) (n width g : Nat) (i : Value) (wr : World) : Prop :=
  ∃ k : Nat, i = .int .i64 (k : Int) ∧ k ≤ width ∧ OB 5 (fun x => x = g) wr (.slice (some ⟨g, 0, none⟩) width width) (le n k ++ List.replicate (width - k) 0) ∧ Fr (fun _ => False) w0 wr

theorem madeBytes (width : Nat) : (madeCells (Value.int .u8 0).cells (width * 1)).toList = (List.replicate width (0 : UInt8)).map byte := by
  apply List.ext_getElem
  · simp [size_madeCells]
  · intro i h1 h2
    simp [madeCells, Value.cells, Nat.mod_one, byte]

set_option maxRecDepth 100000 in
set_option maxHeartbeats 1000000 in
theorem laid_any (n width : Nat) (w : World) (_hn : n ≤ 9223372036854775807) (hw : width ≤ 8) :
    Calls Try.prog 36 #[.int .i64 (n : Int), .int .i64 (width : Int)] w (NewBytes w (le n width)) := by
  obtain ⟨i0, hi, hz0, hz1, hz2⟩ := info_parts Try.info5
  go_enter Try.func36, Try.ntmps36
  go_wp2_with (at_make; refine wpList_make_full _ rfl _ _ 22 rfl w.heap.size 5 i0 (.int .u8 0) 1 Try.underlying22 hi hz0 hz1 _ _ _ _ width rfl rfl rfl rfl (by rw [hz2]; omega) (by unfold maxLen; omega) (Nat.le_refl _) ?_; intro w1 hv1 hg1)
  have hO : OB 5 (fun x => x = w.heap.size) w1 (.slice (some ⟨w.heap.size, 0, none⟩) width width) (List.replicate width 0) := by
    unfold OB
    rw [List.length_replicate, ← madeBytes]
    exact Own.of_row hv1 rfl
  have HO := Lib.hid hO
  have HF := Lib.hid ((Fr.refl (fun _ => False) w).grown hg1 (fun _ h => by cases h))
  have HG : Hid (w.heap.size ≤ w.heap.size) := Nat.le_refl _
  clear hO hv1 hg1
  generalize hgg : w.heap.size = g at *
  have HGG := Lib.hid hgg
  clear hgg
  go_loopw [11] (fun i wr => LaidRel w n width g i wr) (fun i _ => width - (intOf i).toNat)
  case atStart => exact ⟨0, rfl, by omega, by simpa [le] using HO.out, HF.out⟩
  case round =>
    obtain ⟨k, rfl, hk, hv, hf⟩ := hrel
    have HV := Lib.hid hv
    have HF2 := Lib.hid hf
    clear hv hf
    by_cases hlt : k < width
    · have hsp : List.replicate (width - k) (0 : UInt8) = 0 :: List.replicate (width - (k + 1)) 0 := by
        rw [show width - k = (width - (k + 1)) + 1 from by omega, List.replicate_succ]
      have hlk := le_length n k
      have hc : wr.cell? ⟨g, k, none⟩ = some (.int .u8 0) := by
        have := Own.cell HV.out (g := g) rfl (j := k) (u := byte 0) (by rw [hsp]; simp [hlk])
        exact this
      have hfz := Own.frozen HV.out (g := g) rfl k
      have HSP := Lib.hid hsp
      clear hsp hlk
      go_wp2_with (fail)
      rw [byte_shift]
      go_roundw
      case rel =>
        refine ⟨k + 1, rfl, hlt, ?_, HF2.out.trans ((Fr.refl (fun x => x = g) wr).setCell (.inl rfl) _) (fun x hx he => by have := HGG.out; omega)⟩
        have h := Own.set (u := byte (UInt8.ofNat (n / 256 ^ k))) HV.out (g := g) rfl (k := k) (by simp [le_length]; omega)
        have e : ((le n k ++ List.replicate (width - k) 0).map byte).set k (byte (UInt8.ofNat (n / 256 ^ k))) = (le n (k + 1) ++ List.replicate (width - (k + 1)) 0).map byte := by
          rw [HSP.out, ← List.map_set, le_snoc, List.set_append_right _ _ (by rw [le_length]; exact Nat.le_refl _), le_length]
          simp
        rw [e] at h
        have e2 : (le n k ++ List.replicate (width - k) 0).length = (le n (k + 1) ++ List.replicate (width - (k + 1)) 0).length := by simp [le_length]; omega
        rw [e2] at h
        exact h
      case measure => simp [intOf]; omega
    · have hkw : k = width := by omega
      subst hkw
      go_wp2_with (fail)
      go_ret
      refine ⟨_, rfl, ?_, HF2.out, by simp⟩
      have := HV.out
      simp only [Nat.sub_self, List.replicate_zero, List.append_nil] at this
      exact this.mono (fun j _ hj => by rw [hj, HGG.out]; exact Nat.le_refl _)

theorem wraps_i64 (n : Int) (h₀ : 0 ≤ n) (h₁ : n < 2 ^ 63) : IntKind.i64.wrap n = n := by rw [IntKind.wrap_i64]; omega

theorem and255 (m : Nat) (hm : m ≤ 9223372036854775807) : bits .and .i64 (m : Int) 255 = ((UInt8.ofNat m).toNat : Int) := by
  have h := bits_mask .i64 63 (by decide) wraps_i64 8 (by decide) (m : Int) (by omega) (by omega)
  have h2 : (UInt8.ofNat m).toNat = m % 256 := UInt8.toNat_ofNat'
  rw [h2]
  have e : (2 : Int) ^ 8 - 1 = 255 := by decide
  rw [e] at h
  rw [h, Int.natCast_emod]
  rfl

/-- bytes on to a higher number -/
theorem or_low (a b i : Nat) (hb : b < 2 ^ i) (hi : i ≤ 63) (h : a * 2 ^ i < 2 ^ 63) : bits .or .i64 ((a * 2 ^ i : Nat) : Int) (b : Int) = ((a * 2 ^ i + b : Nat) : Int) := by
  have hb2 : b < 2 ^ 63 := Nat.lt_of_lt_of_le hb (Nat.pow_le_pow_right (by decide) hi)
  have h2 := bits_join .i64 63 (by decide) wraps_i64 i ((a * 2 ^ i : Nat) : Int) (b : Int) (by omega) (by
    have : (a * 2 ^ i) % 2 ^ i = 0 := Nat.mul_mod_left _ _
    exact_mod_cast this) (by exact_mod_cast h) (by omega) (by exact_mod_cast hb) (by exact_mod_cast hb2)
  rw [h2]
  omega

theorem or_high (a b i : Nat) (hb : b < 2 ^ i) (hi : i ≤ 63) (h : a * 2 ^ i < 2 ^ 63) : bits .or .i64 (b : Int) ((a * 2 ^ i : Nat) : Int) = ((b + a * 2 ^ i : Nat) : Int) := by
  have hb2 : b < 2 ^ 63 := Nat.lt_of_lt_of_le hb (Nat.pow_le_pow_right (by decide) hi)
  rw [(bits_nat .i64 63 (by decide) wraps_i64 b (a * 2 ^ i) hb2 h).2, Nat.or_comm, Nat.mul_comm a, ← Nat.two_pow_add_eq_or_of_lt hb a, Nat.add_comm]

def LowRel (w0 : World) (n : Nat) (many : Nat) (x v i : Value) (wr : World) : Prop :=
  ∃ k : Nat, k ≤ many ∧ i = .int .i64 (k : Int) ∧ x = .int .i64 ((n / 256 ^ k : Nat) : Int) ∧ OB 5 (fun x => w0.heap.size ≤ x) wr v (le n k) ∧ Fr (fun _ => False) w0 wr ∧ v ≠ .slice none 0 0

set_option maxRecDepth 100000 in
set_option maxHeartbeats 1000000 in
theorem low_any (n many : Nat) (w : World) (hn : n ≤ 9223372036854775807) (hw : many ≤ 8) :
    Calls Try.prog 39 #[.int .i64 (n : Int), .int .i64 (many : Int)] w (NewBytes w (le n many)) := by
  have HE := Lib.hid (empty_src w)
  go_enter Try.func39, Try.ntmps39
  go_wp2_with (fail)
  go_loopw [0, 5, 6] (fun x v i wr => ∃ vv, vv = v ∧ LowRel w n many x vv i wr) (fun _ _ i _ => many - (intOf i).toNat)
  case atStart => exact ⟨_, rfl, 0, by omega, rfl, by simp, by simpa [le, OB] using HE.out, (Fr.refl _ _).alloc _, by simp⟩
  case round =>
    obtain ⟨vv, rfl, k, hk, rfl, rfl, hv, hf, hn0⟩ := hrel
    have HV2 := Lib.hid hv
    have HF2 := Lib.hid hf
    clear hv hf
    by_cases hlt : k < many
    · have hm : n / 256 ^ k ≤ 9223372036854775807 := Nat.le_trans (Nat.div_le_self _ _) hn
      have ha := and255 (n / 256 ^ k) hm
      have hd : (((n / 256 ^ k : Nat) : Int) / 256) = ((n / 256 ^ (k + 1) : Nat) : Int) := by
        rw [Nat.pow_succ, ← Nat.div_div_eq_div_mul]
        omega
      have HL : Hid (le n (k + 1) = le n k ++ [UInt8.ofNat (n / 256 ^ k)]) := le_snoc n k
      have hlk := le_length n k
      have HLK := Lib.hid hlk
      have hc := (UInt8.ofNat (n / 256 ^ k)).toNat_lt
      generalize hm2 : n / 256 ^ (k + 1) = m2 at *
      have HM2 := Lib.hid hm2
      clear hm2
      generalize n / 256 ^ k = m at *
      generalize UInt8.ofNat m = c at *
      clear hlk
      have hx := src_one wr c 5
      unfold byte at hx
      have HX := Lib.hid hx
      clear hx
      go_wp2_with (at_builtin; refine wpList_append_Own _ rfl _ _ 22 rfl 5 (.int .u8 0) 1 1 Try.underlying22 Try.info5 rfl (by decide) vv _ _ rfl (HV2.out.alloc _) (.slice (some ⟨wr.heap.size, 0, none⟩) 1 1) 1 _ rfl HX.out (by rw [HLK.out]; unfold maxLen; omega) (by rw [HLK.out]; omega) ?_; intro v3 w3 hv3 hf3 hn3 _)
      have hfr : Fr (fun _ => False) w w3 := (HF2.out.alloc _).trans hf3 (fun j hj he => absurd (HV2.out.block j he).1 (by omega))
      have HF3 := Lib.hid hfr
      have HV3 := Lib.hid hv3
      have HN3 := Lib.hid hn3
      clear hv3 hf3 hn3 hfr
      go_roundw
      case rel =>
        refine ⟨_, rfl, k + 1, hlt, rfl, by rw [HM2.out], ?_, HF3.out, fun h => by have := (HN3.out.1 h).2; simp at this⟩
        have h := HV3.out
        have em : (List.map (fun c : UInt8 => Value.int .u8 (c.toNat : Int)) [c]) = [c].map byte := rfl
        rw [em, ← List.map_append] at h
        unfold OB
        rw [HL.out]
        have e : (le n k ++ [c]).length = (le n k).length + 1 := by simp
        rw [e]
        exact h.mono (fun j _ hj => hj.elim id (fun h => by have := HF2.out.size; simp at h; omega))
      case measure => simp [intOf]; omega
    · have hk8 : k = many := by omega
      subst hk8
      have HN0 := Lib.hid hn0
      clear hn0
      go_wp2_with (fail)
      go_ret
      exact ⟨_, rfl, HV2.out, HF2.out, HN0.out⟩

/-- the number that bytes are, the lowest first -/
def unle : List UInt8 → Nat
  | [] => 0
  | c :: r => c.toNat + 256 * unle r

theorem unle_lt (xs : List UInt8) : unle xs < 256 ^ xs.length := by
  induction xs with
  | nil => simp [unle]
  | cons c r ih =>
    have := c.toNat_lt
    simp only [unle, List.length_cons, Nat.pow_succ]
    omega

theorem drop_cons {α : Type} (xs : List α) (k : Nat) (h : k < xs.length) : xs.drop k = xs[k] :: xs.drop (k + 1) := by
  rw [List.drop_eq_getElem_cons h]

def NumRel (xs : List UInt8) (n i : Value) : Prop := ∃ k : Nat, k ≤ xs.length ∧ i = .int .i64 ((k : Int) - 1) ∧ n = .int .i64 ((unle (xs.drop k) : Nat) : Int)

set_option maxRecDepth 100000 in
set_option maxHeartbeats 1000000 in
/-- The reference's number of at most seven bytes. -/
theorem refnumber_any (v : Value) (xs : List UInt8) (w : World) (hv : RB w v xs) (h7 : xs.length ≤ 7) (h0 : 0 < xs.length) :
    Calls Try.prog 43 #[v] w fun e w' => e = .returned (.int .i64 ((unle xs : Nat) : Int)) ∧ w = w' := by
  rcases hv.open' with ⟨_, _, _, rfl⟩ | ⟨b, o, c, rfl, _, _, _, hc⟩
  · simp at h0
  · have HC := Lib.hid hc
    clear hc hv
    go_enter Try.func43, Try.ntmps43
    go_wp2_with (fail)
    go_loop [3, 4] (fun n i => NumRel xs n i) (fun _ i => (intOf i + 1).toNat)
    case atStart => exact ⟨xs.length, by omega, rfl, by simp [unle]⟩
    case round =>
      obtain ⟨k, hk, rfl, rfl⟩ := hrel
      by_cases hk0 : k = 0
      · subst hk0
        simp only [List.drop_zero]
        go_wp2_with (fail)
        go_ret
        exact ⟨rfl, rfl⟩
      · obtain ⟨j, rfl⟩ : ∃ j, k = j + 1 := ⟨k - 1, by omega⟩
        clear hk0
        have hx := HC.out j (by omega)
        have hd := drop_cons xs j (by omega)
        have hu := unle_lt (xs.drop (j + 1))
        have hpw : 256 ^ (xs.drop (j + 1)).length ≤ 256 ^ 6 := Nat.pow_le_pow_right (by decide) (by simp; omega)
        have hun : unle (xs.drop j) = xs[j].toNat + 256 * unle (xs.drop (j + 1)) := by rw [hd]; rfl
        have hb := xs[j].toNat_lt
        have HUN := Lib.hid hun
        clear hd hun
        generalize unle (xs.drop (j + 1)) = m at *
        generalize xs[j] = c at *
        have hm : m < 281474976710656 := Nat.lt_of_lt_of_le hu hpw
        clear hu hpw
        unfold byte at hx
        have hor := or_low m c.toNat 8 (by omega) (by decide) (by omega)
        obtain ⟨q, hq⟩ : ∃ q : Nat, q = m * 2 ^ 8 + c.toNat := ⟨_, rfl⟩
        rw [← hq] at hor
        have HQ := Lib.hid hq
        have hor2 : bits .or .i64 ((m : Int) * 256) (c.toNat : Int) = (q : Int) := by
          have e : ((m * 2 ^ 8 : Nat) : Int) = (m : Int) * 256 := by omega
          rw [e] at hor
          exact hor
        clear hor hq
        go_wp2_with (fail)
        go_round
        case rel => exact ⟨j, by omega, rfl, by rw [HUN.out, HQ.out, Nat.add_comm, Nat.mul_comm]⟩
        case measure => simp [intOf]

set_option maxRecDepth 100000 in
set_option maxHeartbeats 1000000 in
/-- The frame's number of four bytes. -/
theorem number_any (b o m c : Nat) (c0 c1 c2 c3 : UInt8) (w : World) (hm : 4 ≤ m) (hc : ∀ i (h : i < [c0, c1, c2, c3].length), w.cell? ⟨b, o + i, none⟩ = some (byte [c0, c1, c2, c3][i])) :
    Calls Try.prog 47 #[.slice (some ⟨b, o, none⟩) m c] w (Quiet (.int .i64 ((unle [c0, c1, c2, c3] : Nat) : Int)) w) := by
  have h0 : w.cell? ⟨b, o, none⟩ = some (.int .u8 (c0.toNat : Int)) := hc 0 (by simp)
  have h1 : w.cell? ⟨b, o + 1, none⟩ = some (.int .u8 (c1.toNat : Int)) := hc 1 (by simp)
  have h2 : w.cell? ⟨b, o + 2, none⟩ = some (.int .u8 (c2.toNat : Int)) := hc 2 (by simp)
  have h3 : w.cell? ⟨b, o + 3, none⟩ = some (.int .u8 (c3.toNat : Int)) := hc 3 (by simp)
  have b0 := c0.toNat_lt
  have b1 := c1.toNat_lt
  have b2 := c2.toNat_lt
  have b3 := c3.toNat_lt
  clear hc
  go_enter Try.func47, Try.ntmps47
  go_wp2_with (fail)
  go_quiet (fail)
  go_wp2_with (fail)
  go_ret
  refine ⟨?_, _, rfl⟩
  have e1 := or_high c1.toNat c0.toNat 8 b0 (by decide) (by omega)
  have e2 := or_high c2.toNat (c0.toNat + c1.toNat * 2 ^ 8) 16 (by omega) (by decide) (by omega)
  have e3 := or_high c3.toNat (c0.toNat + c1.toNat * 2 ^ 8 + c2.toNat * 2 ^ 16) 24 (by omega) (by decide) (by omega)
  rw [Int.natCast_mul] at e1 e2 e3
  show Ending.returned (.int .i64 (bits .or .i64 (bits .or .i64 (bits .or .i64 (c0.toNat : Int) ((c1.toNat : Int) * 256)) ((c2.toNat : Int) * 65536)) ((c3.toNat : Int) * 16777216))) = _
  have p1 : ((2 ^ 8 : Nat) : Int) = 256 := by decide
  have p2 : ((2 ^ 16 : Nat) : Int) = 65536 := by decide
  have p3 : ((2 ^ 24 : Nat) : Int) = 16777216 := by decide
  rw [p1] at e1
  rw [p2] at e2
  rw [p3] at e3
  rw [e1, e2, e3]
  congr 3
  simp only [unle]
  omega

end Go.Proofs.Ytgobbgklmjnnlaa
