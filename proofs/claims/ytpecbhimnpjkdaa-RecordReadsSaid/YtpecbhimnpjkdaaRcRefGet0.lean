/- The document's number, numbers, many, walked. -/
import Derived.Test.YtpecbhimnpjkdaaRcPlain
import Derived.Test.YtpecbhimnpjkdaaRcRefNums
namespace Go.Proofs.Ytpecbhimnpjkdaa
open Go.RowKit Go.Sb

theorem many_any (k : Int) (w : World) (hk : Kind k) : Calls Try.prog 42 #[.int .i64 k] w fun e w' => e = .returned (.int .i64 ((ofList k).length : Int)) ∧ w = w' := by
  rcases hk with rfl | rfl | rfl | rfl
  all_goals
    go_enter Try.func42, Try.ntmps42
    go_wp2_with (fail)
    go_ret
    exact ⟨rfl, rfl⟩

theorem un_drop_le (l : List UInt8) (q : Nat) : un (l.drop q) ≤ un l := by
  induction q generalizing l with
  | zero => simp
  | succ q ih =>
    cases l with
    | nil => simp
    | cons c l =>
      rw [List.drop_succ_cons, un]
      have := ih l
      omega

def nOk (r : List UInt8) (i : Nat) : Bool := decide (8 * i + 8 ≤ r.length) && decide (numAt r i ≤ 4611686018427387903)

/-- the top byte says it -/
theorem top_byte (bs : List UInt8) (hl : bs.length = 8) : decide (63 < (bs[7]'(by omega)).toNat) = !decide (un bs ≤ 4611686018427387903) := by
  match bs, hl with
  | [a0, a1, a2, a3, a4, a5, a6, a7], _ =>
    have e : un [a0, a1, a2, a3, a4, a5, a6, a7] = a0.toNat + 256 * (a1.toNat + 256 * (a2.toNat + 256 * (a3.toNat + 256 * (a4.toNat + 256 * (a5.toNat + 256 * (a6.toNat + 256 * (a7.toNat + 0))))))) := rfl
    have b0 := a0.toNat_lt
    have b1 := a1.toNat_lt
    have b2 := a2.toNat_lt
    have b3 := a3.toNat_lt
    have b4 := a4.toNat_lt
    have b5 := a5.toNat_lt
    have b6 := a6.toNat_lt
    rw [e, Bool.eq_iff_iff]
    simp only [List.getElem_cons_succ, List.getElem_cons_zero, decide_eq_true_eq, Bool.not_eq_true', decide_eq_false_iff_not]
    omega

def RNumPost (r : List UInt8) (i : Nat) (w : World) (e : Ending) (w' : World) : Prop :=
  ∃ x : Int, e = .returned (.tuple #[.int .i64 x, .bool (nOk r i)]) ∧ (nOk r i = true → x = numAt r i) ∧ w = w'

def RNumRel (w0 : World) (bs : List UInt8) (n k : Value) (wr : World) : Prop :=
  ∃ q : Nat, q ≤ 8 ∧ k = .int .i64 ((q : Int) - 1) ∧ n = .int .i64 ((un (bs.drop q) : Nat) : Int) ∧ wr = w0

set_option maxRecDepth 100000 in
set_option maxHeartbeats 2000000 in
theorem number_anyR (b o c : Nat) (r : List UInt8) (i : Nat) (w : World) (hc : ∀ k (h : k < r.length), w.cell? ⟨b, o + (1 + k), none⟩ = some (byte r[k])) (hi : i ≤ 13) (hm : r.length ≤ 140737488360000) :
    Calls Try.prog 49 #[.slice (some ⟨b, o, none⟩) (r.length + 1) c, .int .i64 (i : Int)] w (RNumPost r i w) := by
  by_cases h8 : 8 * i + 8 ≤ r.length
  · obtain ⟨bs, hbl, hna, hcb⟩ : ∃ bs : List UInt8, bs.length = 8 ∧ numAt r i = un bs ∧ ∀ q (h : q < bs.length), w.cell? ⟨b, o + (1 + 8 * i + q), none⟩ = some (.int .u8 (((bs[q]'h).toNat : Nat) : Int)) := by
      have hbl : ((r.drop (8 * i)).take 8).length = 8 := by simp; omega
      refine ⟨(r.drop (8 * i)).take 8, hbl, rfl, fun q h => ?_⟩
      have h2 := hc (8 * i + q) (by rw [hbl] at h; omega)
      rw [show o + (1 + 8 * i + q) = o + (1 + (8 * i + q)) by omega, h2, List.getElem_take, List.getElem_drop]
      rfl
    have htop := top_byte bs hbl
    have hc7 := hcb 7 (by omega)
    have h8i : (1 + 8 * (i : Int) + 8) ≤ (r.length : Int) + 1 := by omega
    have h8d : decide ((r.length : Int) + 1 < 1 + 8 * (i : Int) + 8) = false := decide_eq_false (by omega)
    have HCB := Lib.hid hcb
    have HBL := Lib.hid hbl
    have HNA := Lib.hid hna
    clear hc hcb
    cases hok : decide (un bs ≤ 4611686018427387903)
    · have HN : Hid (nOk r i = false) := Lib.hid (by unfold nOk; rw [hna, hok, Bool.and_false])
      rw [hok] at htop
      clear hok hna
      generalize (bs[7]'(by omega)).toNat = tb at *
      have htb : decide ((63 : Int) < (tb : Int)) = true := by
        have : decide (63 < tb) = true := htop
        simp at this
        exact decide_eq_true (by omega)
      clear htop hbl
      go_enter Try.func49, Try.ntmps49
      go_wp2_with (fail)
      go_ret2
      exact ⟨0, by rw [HN.out]; rfl, fun h => absurd (HN.out.symm.trans h) (by decide), rfl⟩
    · have HN : Hid (nOk r i = true) := Lib.hid (by unfold nOk; rw [hna, hok, decide_eq_true h8]; rfl)
      rw [hok] at htop
      have hub : un bs ≤ 4611686018427387903 := by simpa using hok
      have HUB := Lib.hid hub
      clear hok hna
      have hc7' := hc7
      generalize (bs[7]'(by omega)).toNat = tb at hc7 htop
      have htb : decide ((63 : Int) < (tb : Int)) = false := by
        have : decide (63 < tb) = false := htop
        simp at this
        exact decide_eq_false (by omega)
      clear htop hc7' hbl
      go_enter Try.func49, Try.ntmps49
      go_wp2_with (fail)
      go_loopw [7, 8] (fun n k wr => RNumRel w bs n k wr) (fun _ k _ => (intOf k + 1).toNat)
      case atStart => exact ⟨8, by omega, rfl, by rw [List.drop_of_length_le (by rw [HBL.out]; omega)]; rfl, rfl⟩
      case round =>
        obtain ⟨q, hq, rfl, rfl, rfl⟩ := hrel
        cases q with
        | zero =>
          go_wp2_with (fail)
          go_ret2
          exact ⟨_, by rw [HN.out]; rfl, fun _ => by rw [HNA.out, List.drop_zero], rfl⟩
        | succ q =>
          have hcq := HCB.out q (by rw [HBL.out]; omega)
          have hqb : q < bs.length := by rw [HBL.out]; omega
          have hun := un_drop (l := bs) hqb
          have hule := un_drop_le bs q
          have huq : un (bs.drop q) ≤ 4611686018427387903 := Nat.le_trans hule HUB.out
          have HUN := Lib.hid hun
          rw [hun] at huq
          have hb256 := (bs[q]'hqb).toNat_lt
          clear hun hule
          generalize un (bs.drop (q + 1)) = m at *
          generalize (bs[q]'hqb).toNat = cq at *
          go_wp2_with (fail)
          refine ⟨⟨q, by omega, rfl, by rw [HUN.out]; congr 1; omega, rfl⟩, by simp [intOf]⟩
  · have HN : Hid (nOk r i = false) := Lib.hid (by unfold nOk; rw [decide_eq_false h8]; rfl)
    have h8i : (r.length : Int) + 1 < (1 + 8 * (i : Int) + 8) := by omega
    clear h8 hc
    go_enter Try.func49, Try.ntmps49
    go_wp2_with (fail)
    go_ret2
    exact ⟨0, by rw [HN.out]; rfl, fun h => absurd (HN.out.symm.trans h) (by decide), rfl⟩

def rOk (r : List UInt8) (n : Nat) : Bool := (List.range n).all fun j => nOk r j
def numsR (r : List UInt8) (n : Nat) : List Value := (List.range n).map fun j => .int .i64 (numAt r j : Int)
def RNumsPost (r : List UInt8) (n : Nat) (w : World) (e : Ending) (w' : World) : Prop :=
  ∃ v, e = .returned (.tuple #[v, .bool (rOk r n)]) ∧ (rOk r n = true → Own 3 1 (fun x => w.heap.size ≤ x) w' v n (numsR r n)) ∧ Fr (fun _ => False) w w'
def RNumsRel (r : List UInt8) (n : Nat) (w : World) (v i : Value) (wr : World) : Prop :=
  ∃ j : Nat, i = .int .i64 (j : Int) ∧ j ≤ n ∧ Own 3 1 (fun x => w.heap.size ≤ x) wr v j (numsR r j) ∧ (∀ q, q < j → nOk r q = true) ∧ Fr (fun _ => False) w wr

theorem numsR_snoc (r : List UInt8) (n : Nat) : numsR r (n + 1) = numsR r n ++ [.int .i64 (numAt r n : Int)] := by
  unfold numsR
  rw [List.range_succ, List.map_append]
  rfl

set_option maxRecDepth 100000 in
set_option maxHeartbeats 2000000 in
theorem numbers_anyR (b o c : Nat) (r : List UInt8) (n : Nat) (w : World) (hc : ∀ k (h : k < r.length), w.cell? ⟨b, o + (1 + k), none⟩ = some (byte r[k])) (hi : n ≤ 13) (hm : r.length ≤ 140737488360000) :
    Calls Try.prog 43 #[.slice (some ⟨b, o, none⟩) (r.length + 1) c, .int .i64 (n : Int)] w (RNumsPost r n w) := by
  have HN : Hid (∀ (i : Nat) (w' : World), i ≤ 13 → Fr (fun _ => False) w w' → Calls Try.prog 49 #[.slice (some ⟨b, o, none⟩) (r.length + 1) c, .int .i64 (i : Int)] w' (RNumPost r i w')) := Lib.hid (fun i w' h hf => number_anyR b o c r i w' (fun k hk => cell_fr' hf (hc k hk)) h hm)
  clear hc
  go_enter Try.func43, Try.ntmps43
  go_wp2_with (fail)
  go_loopw [6, 7, 8, 9] (fun v i _ _ wr => ∃ vv, vv = v ∧ RNumsRel r n w vv i wr) (fun _ i _ _ _ => n - (intOf i).toNat)
  case atStart => exact ⟨_, rfl, 0, rfl, by omega, Own.empty 3 1 _ w (Nat.le_refl _), fun q h => absurd h (by omega), (Fr.refl _ _).alloc _⟩
  case round =>
    obtain ⟨vv, rfl, j, rfl, hj, hv, hall, hf⟩ := hrel
    have HV := Lib.hid hv
    have HF := Lib.hid hf
    have HALL := Lib.hid hall
    clear hv hf hall
    by_cases hlt : j < n
    · cases hok : nOk r j
      · have HR : Hid (rOk r n = false) := Lib.hid (by
          unfold rOk
          rw [List.all_eq_false]
          exact ⟨j, by simpa using hlt, by rw [hok]; simp⟩)
        go_wp2_with (go_at_call 49; refine (HN.out j _ (by omega) HF.out).mono ?_; rintro e w5 ⟨x, rfl, hx, rfl⟩; rw [hok]; clear hx)
        go_ret2
        exact ⟨.slice none 0 0, by rw [HR.out]; rfl, fun h => absurd (HR.out.symm.trans h) (by decide), HF.out⟩
      · have HJ : Hid (j + 1 ≤ n) := Lib.hid hlt
        go_wp2_with (first
          | (go_at_call 49; refine (HN.out j _ (by omega) HF.out).mono ?_; rintro e w5 ⟨x, rfl, hx, rfl⟩; have HXE := Lib.hid (hx hok); rw [hok, HXE.out]; clear hx)
          | (at_builtin; refine wpList_append_Own _ rfl _ _ 51 rfl 3 (.int .i64 0) 1 8 Try.underlying51 info3 rfl (by decide) vv j (numsR r j) rfl (HV.out.alloc _) (.slice (some ⟨wr.heap.size, 0, none⟩) 1 1) 1 [.int .i64 (numAt r j : Int)] rfl (src_byte wr _ rfl 3) (by unfold maxLen; omega) (by omega) ?_; intro v3 w3 hv3 hf3 hn3 _; have HV3 := Lib.hid hv3; have HF3 := Lib.hid ((HF.out.alloc _).trans hf3 (fun x hx h => by have := (HV.out.block x h).1; omega)); have HSZ : Hid (w.heap.size ≤ wr.heap.size) := Lib.hid HF.out.size; clear hv3 hf3 hn3))
        go_roundw
        case rel =>
          refine ⟨_, rfl, j + 1, by simp, HJ.out, ?_, fun q hq => ?_, HF3.out⟩
          · rw [numsR_snoc]
            exact HV3.out.mono (fun x _ h => h.elim id (fun h => by have := HSZ.out; simp at h; omega))
          · rcases Nat.lt_or_ge q j with h | h
            · exact HALL.out q h
            · rw [show q = j by omega]; exact hok
        case measure => simp [intOf]; omega
    · obtain rfl : j = n := by omega
      have HR : Hid (rOk r j = true) := Lib.hid (by
        unfold rOk
        rw [List.all_eq_true]
        exact fun q hq => HALL.out q (by simpa using hq))
      go_wp2_with (fail)
      go_ret2
      exact ⟨_, by rw [HR.out]; rfl, fun _ => HV.out, HF.out⟩

theorem rOk_nums (r : List UInt8) (n : Nat) (h0 : 0 < n) : rOk r n = (decide (8 * n ≤ r.length) && numsOk r n) := by
  rw [Bool.eq_iff_iff]
  unfold rOk numsOk nOk
  simp only [List.all_eq_true, List.mem_range, Bool.and_eq_true, decide_eq_true_eq]
  constructor
  · intro h
    exact ⟨by have := (h (n - 1) (by omega)).1; omega, fun j hj => (h j hj).2⟩
  · intro h j hj
    exact ⟨by omega, h.2 j hj⟩

end Go.Proofs.Ytpecbhimnpjkdaa
