/- Frames one behind the other: the plain law; the bound of the document. -/
import Derived.Test.YtgobbgklmjnnlaaFrWhole
namespace Go.Proofs.Ytgobbgklmjnnlaa
open Go.RowKit Go.Sb

/-- A frame that was made: of the payload of this number, at this place. -/
structure Mk where
  i : Nat
  p : Nat
  xs : List UInt8

def Mk.key (m : Mk) : Int × List UInt8 := ((m.p : Int), m.xs)
def catM (f : Nat) (M : List Mk) : List UInt8 := M.flatMap fun m => frameOf f m.p m.xs
def plsM (M : List Mk) : List Value := M.flatMap fun m => [.int .i64 (m.i : Int), .int .i64 (m.p : Int)]

def RowOk (file : Int) : Nat → List Mk → Prop
  | _, [] => True
  | p, m :: r => m.p = p ∧ Placed file ∧ Placed (p : Int) ∧ 0 < m.xs.length ∧ m.xs.length ≤ 66000 ∧ RowOk file (p + (8 + m.xs.length)) r

theorem frames_row (file : Int) (rest : List UInt8) : ∀ (M : List Mk) (p : Nat), RowOk file p M → frames file p (catM file.toNat M ++ rest) = M.map Mk.key ++ frames file (p + (catM file.toNat M).length) rest
  | [], p, _ => by simp [catM]
  | m :: r, p, h => by
    obtain ⟨h1, hf, hp, h2, h3, h4⟩ := h
    have ih := frames_row file rest r _ h4
    have hb : catM file.toNat (m :: r) ++ rest = frameOf file.toNat m.p m.xs ++ (catM file.toNat r ++ rest) := by
      unfold catM
      rw [List.flatMap_cons, List.append_assoc]
    obtain ⟨e1, _, e3⟩ := take_frame (file := file) (place := (p : Int)) (f := file.toNat) (p := m.p) hf hp rfl (by simp [h1]) (ps := m.xs) (catM file.toNat r ++ rest) h2 h3
    have hl : lenOf (frameOf file.toNat m.p m.xs ++ (catM file.toNat r ++ rest)) = m.xs.length := by
      rw [frame_made, made_app]
      exact lenOf_made (by omega)
    have hpay : payOf (frameOf file.toNat m.p m.xs ++ (catM file.toNat r ++ rest)) = m.xs := by
      unfold restOf at e3
      rw [if_pos e1] at e3
      exact e3
    rw [hb, frames_ok e1, hl, hpay]
    have hd : (frameOf file.toNat m.p m.xs ++ (catM file.toNat r ++ rest)).drop (8 + m.xs.length) = catM file.toNat r ++ rest := by
      rw [← frame_len file.toNat m.p m.xs, List.drop_left]
    rw [hd, ih]
    have hlen : (catM file.toNat (m :: r)).length = 8 + m.xs.length + (catM file.toNat r).length := by
      unfold catM
      rw [List.flatMap_cons, List.length_append, frame_len]
    have ea : p + (8 + m.xs.length + (catM file.toNat r).length) = p + (8 + m.xs.length) + (catM file.toNat r).length := by omega
    rw [hlen, List.map_cons, List.cons_append, ea]
    simp [Mk.key, h1]

theorem rowOk_snoc (file : Int) (m : Mk) (hf : Placed file) (hp : Placed (m.p : Int)) (h0 : 0 < m.xs.length) (h1 : m.xs.length ≤ 66000) : ∀ (M : List Mk) (p : Nat), RowOk file p M → m.p = p + (catM file.toNat M).length → RowOk file p (M ++ [m])
  | [], p, _, h => by
    simp only [catM, List.flatMap_nil, List.length_nil, Nat.add_zero] at h
    exact ⟨h, hf, h ▸ hp, h0, h1, trivial⟩
  | a :: r, p, hr, h => by
    obtain ⟨h2, h3, h4, h5, h6, h7⟩ := hr
    refine ⟨h2, h3, h4, h5, h6, rowOk_snoc file m hf hp h0 h1 r _ h7 ?_⟩
    unfold catM at h ⊢
    rw [List.flatMap_cons, List.length_append, frame_len] at h
    omega

theorem catM_snoc (f : Nat) (M : List Mk) (m : Mk) : catM f (M ++ [m]) = catM f M ++ frameOf f m.p m.xs := by unfold catM; simp
theorem plsM_snoc (M : List Mk) (m : Mk) : plsM (M ++ [m]) = plsM M ++ [.int .i64 (m.i : Int), .int .i64 (m.p : Int)] := by unfold plsM; simp
theorem plsM_length (M : List Mk) : (plsM M).length = 2 * M.length := by
  induction M with
  | nil => rfl
  | cons m M ih =>
    unfold plsM at ih ⊢
    rw [List.flatMap_cons, List.length_append, ih]
    simp
    omega

theorem plsM_at : ∀ (M : List Mk) (k : Nat) (m : Mk), M[k]? = some m → (plsM M)[2 * k]? = some (.int .i64 (m.i : Int)) ∧ (plsM M)[2 * k + 1]? = some (.int .i64 (m.p : Int))
  | [], k, m, h => by simp at h
  | a :: M, 0, m, h => by
    simp at h
    subst h
    simp [plsM]
  | a :: M, k + 1, m, h => by
    obtain ⟨h1, h2⟩ := plsM_at M k m (by simpa using h)
    have e : plsM (a :: M) = [.int .i64 (a.i : Int), .int .i64 (a.p : Int)] ++ plsM M := by simp [plsM]
    rw [e, List.getElem?_append_right (by simp; omega), List.getElem?_append_right (by simp; omega)]
    have e1 : 2 * (k + 1) - [Value.int .i64 (a.i : Int), Value.int .i64 (a.p : Int)].length = 2 * k := by simp; omega
    have e2 : 2 * (k + 1) + 1 - [Value.int .i64 (a.i : Int), Value.int .i64 (a.p : Int)].length = 2 * k + 1 := by simp; omega
    rw [e1, e2]
    exact ⟨h1, h2⟩

/-- The last frame ends where the row ends. -/
theorem wh_row (file : Int) : ∀ (M : List Mk), RowOk file 0 M → whOf (M.map Mk.key) = ((catM file.toNat M).length : Int) := by
  intro M h
  rcases List.eq_nil_or_concat M with rfl | ⟨M0, m, rfl⟩
  · rfl
  · rw [List.concat_eq_append] at *
    have key : ∀ (M : List Mk) (p : Nat), RowOk file p (M ++ [m]) → m.p = p + (catM file.toNat M).length := by
      intro M
      induction M with
      | nil => intro p h; simpa [catM] using h.1
      | cons a r ih =>
        intro p h
        have := ih _ h.2.2.2.2.2
        unfold catM at this ⊢
        rw [List.flatMap_cons, List.length_append, frame_len]
        omega
    have hk := key M0 0 h
    rw [List.map_append, List.map_cons, List.map_nil, whOf_snoc, catM_snoc, List.length_append, frame_len]
    simp only [Mk.key]
    omega

/-- how many bytes the payloads' frames have at most, one more for each -/
def tot (ps : List (List UInt8)) : Nat := (ps.map fun x => x.length + 9).sum

theorem tot_succ {ps : List (List UInt8)} {k : Nat} {x : List UInt8} (h : ps[k]? = some x) : tot (ps.take (k + 1)) = tot (ps.take k) + (x.length + 9) := by
  unfold tot
  rw [List.take_add_one, h]
  simp

theorem tot_le (ps : List (List UInt8)) (k : Nat) : tot (ps.take k) ≤ tot ps := by
  unfold tot
  conv => rhs; rw [← List.take_append_drop k ps]
  rw [List.map_append, List.sum_append]
  omega

theorem tot_nine (ps : List (List UInt8)) : ps.length * 9 ≤ tot ps := by
  unfold tot
  induction ps with
  | nil => simp
  | cons x ps ih =>
    simp only [List.map_cons, List.sum_cons, List.length_cons]
    omega

theorem more_any (a b : Int) (w : World) (ha : 0 ≤ a) (ha2 : a ≤ 2147483648) (hb : 0 ≤ b) (hb2 : b ≤ 9223372036854775807) :
    Calls Try.prog 45 #[.int .i64 a, .int .i64 b] w fun e w' => e = .returned (.int .i64 (if a + b ≤ 2147483647 then a + b else 2147483648)) ∧ w = w' := by
  by_cases h1 : 2147483647 < a
  · rw [if_neg (by omega)]
    go_enter Try.func45, Try.ntmps45
    go_wp2_with (fail)
    go_ret
    exact ⟨rfl, rfl⟩
  · by_cases h2 : 2147483647 - a < b
    · rw [if_neg (by omega)]
      go_enter Try.func45, Try.ntmps45
      go_wp2_with (fail)
      go_ret
      exact ⟨rfl, rfl⟩
    · rw [if_pos (by omega)]
      go_enter Try.func45, Try.ntmps45
      go_wp2_with (fail)
      go_ret
      exact ⟨rfl, rfl⟩

theorem more_sum (a b : Int) (w : World) (ha : 0 ≤ a) (hb : 0 ≤ b) (h : a + b ≤ 2147483647) : Calls Try.prog 45 #[.int .i64 a, .int .i64 b] w fun e w' => e = .returned (.int .i64 (a + b)) ∧ w = w' := by
  have := more_any a b w ha (by omega) hb (by omega)
  rw [if_pos h] at this
  exact this

theorem more_over (a b : Int) (w : World) (ha : 0 ≤ a) (ha2 : a ≤ 2147483648) (hb : 0 ≤ b) (hb2 : b ≤ 9223372036854775807) (h : 2147483647 < a + b) : Calls Try.prog 45 #[.int .i64 a, .int .i64 b] w fun e w' => e = .returned (.int .i64 2147483648) ∧ w = w' := by
  have := more_any a b w ha ha2 hb hb2
  rw [if_neg (by omega)] at this
  exact this

/-- A list of slices of bytes, at an address. -/
structure Pay (w : World) (a : Option Addr) (b o : Nat) (ps : List (List UInt8)) : Prop where
  at0 : 0 < ps.length → a = some ⟨b, o, none⟩
  each : ∀ k x, ps[k]? = some x → ∃ v, w.cell? ⟨b, o + k, none⟩ = some v ∧ RB w v x

def BeyRel (ps : List (List UInt8)) (t i : Value) : Prop :=
  ∃ (k : Nat) (z : Int), i = .int .i64 (k : Int) ∧ t = .int .i64 z ∧ k ≤ ps.length ∧ ((z ≤ 2147483647 ∧ z = (tot (ps.take k) : Int)) ∨ (z = 2147483648 ∧ 2147483647 < tot ps))

set_option maxRecDepth 100000 in
set_option maxHeartbeats 1000000 in
theorem beyond_any (a : Option Addr) (b o c : Nat) (ps : List (List UInt8)) (w : World) (h : Pay w a b o ps) (hl : ps.length ≤ 9223372036854775807) :
    Calls Try.prog 31 #[.slice a ps.length c] w fun e w' => e = .returned (.bool (decide (2147483647 < tot ps))) ∧ w = w' := by
  have H := Lib.hid h
  clear h
  go_enter Try.func31, Try.ntmps31
  go_wp2_with (fail)
  go_loop [3, 4] (fun t i => BeyRel ps t i) (fun _ i => ps.length - (intOf i).toNat)
  case atStart => exact ⟨0, 0, rfl, rfl, Nat.zero_le _, .inl ⟨by omega, by simp [tot]⟩⟩
  case round =>
    obtain ⟨k, z, rfl, rfl, hk, hz⟩ := hrel
    by_cases hzm : z ≤ 2147483647
    · obtain ⟨_, hz1⟩ := hz.resolve_right (by omega)
      by_cases hlt : k < ps.length
      · have hx : ps[k]? = some (ps[k]'hlt) := List.getElem?_eq_getElem hlt
        obtain ⟨v, hv, hrb⟩ := H.out.each k _ hx
        have hT := tot_succ hx
        have hT2 := tot_le ps (k + 1)
        have hxl := hrb.len
        unfold maxLen at hxl
        obtain ⟨va, vc, rfl, hjunk⟩ := hrb
        clear hjunk hx
        have ha := H.out.at0 (by omega)
        subst ha
        have hz0 : 0 ≤ z := by omega
        have HZ1 := Lib.hid hz1
        have HT := Lib.hid hT
        clear hz hz1 hT
        generalize (ps[k]'hlt).length = xl at *
        go_wp2_with (fail)
        by_cases h1 : z + (xl : Int) ≤ 2147483647
        · refine (more_sum z xl w hz0 (by omega) h1).mono ?_
          rintro e w' ⟨rfl, rfl⟩
          go_wp2_with (fail)
          by_cases h2 : z + (xl : Int) + 9 ≤ 2147483647
          · refine (more_sum (z + (xl : Int)) 9 w (by omega) (by omega) h2).mono ?_
            rintro e w' ⟨rfl, rfl⟩
            go_wp2_with (fail)
            go_round
            case rel => exact ⟨k + 1, _, by simp, rfl, hlt, .inl ⟨h2, by have := HZ1.out; rw [HT.out]; omega⟩⟩
            case measure => simp [intOf]; omega
          · refine (more_over (z + (xl : Int)) 9 w (by omega) (by omega) (by omega) (by omega) (by omega)).mono ?_
            rintro e w' ⟨rfl, rfl⟩
            go_wp2_with (fail)
            go_round
            case rel => exact ⟨k + 1, _, by simp, rfl, hlt, .inr ⟨rfl, by have := HZ1.out; have := HT.out; omega⟩⟩
            case measure => simp [intOf]; omega
        · refine (more_over z xl w hz0 (by omega) (by omega) (by omega) (by omega)).mono ?_
          rintro e w' ⟨rfl, rfl⟩
          go_wp2_with (fail)
          refine (more_over 2147483648 9 w (by omega) (by omega) (by omega) (by omega) (by omega)).mono ?_
          rintro e w' ⟨rfl, rfl⟩
          go_wp2_with (fail)
          go_round
          case rel => exact ⟨k + 1, _, by simp, rfl, hlt, .inr ⟨rfl, by have := HZ1.out; have := HT.out; omega⟩⟩
          case measure => simp [intOf]; omega
      · have hkn : k = ps.length := by omega
        subst hkn
        rw [List.take_length] at hz1
        have hd : decide (2147483647 < tot ps) = false := by simp; omega
        have HD := Lib.hid hd
        clear hd hz
        go_wp2_with (fail)
        go_ret
        exact ⟨by first | rfl | (simp; omega) | rw [HD.out], rfl⟩
    · obtain ⟨rfl, hz1⟩ := hz.resolve_left (by omega)
      have hd : decide (2147483647 < tot ps) = true := by simpa using hz1
      have HD := Lib.hid hd
      clear hd
      by_cases hlt : k < ps.length
      · go_wp2_with (fail)
        go_ret
        exact ⟨by first | rfl | (simp; omega) | rw [HD.out], rfl⟩
      · go_wp2_with (fail)
        go_ret
        exact ⟨by first | rfl | (simp; omega) | rw [HD.out], rfl⟩

end Go.Proofs.Ytgobbgklmjnnlaa
