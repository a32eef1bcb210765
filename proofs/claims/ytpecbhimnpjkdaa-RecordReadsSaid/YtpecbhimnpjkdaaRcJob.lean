/- What a job's numbers may be. -/
import Derived.Test.YtpecbhimnpjkdaaRcOf
namespace Go.Proofs.Ytpecbhimnpjkdaa
open Go.RowKit Go.Sb

def iv (n : Int) : Value := .int .i64 n
def MW : Int := 4611686018427387903
def at0 (ns : List Int) (k : Nat) : Int := ns.getD k 0
def dueB (ns : List Int) : Bool := if at0 ns 5 = 2 then inB3 (at0 ns 6) 1 1103806595071 else inB3 (at0 ns 6) 0 0
def orderB (ns : List Int) : Bool := if at0 ns 5 = 4 then inB3 (at0 ns 7) 1 4611686018427387903 else inB3 (at0 ns 7) 0 0
def countsB (ns : List Int) : Bool := (List.range 5).all fun j => inB3 (at0 ns (8 + j)) 0 4611686018427387903
def tailB (ns : List Int) : Bool := inB3 (at0 ns 0) 1 1099511627776 && (inB3 (at0 ns 1) 0 4294967295 && inB3 (at0 ns 2) 0 4294967295)
def StateOk (s : Int) : Prop := s = 1 ∨ s = 2 ∨ s = 4
instance (s : Int) : Decidable (StateOk s) := by unfold StateOk; infer_instance
def jobB (ns : List Int) : Bool := decide (StateOk (at0 ns 5)) && (countsB ns && (dueB ns && (orderB ns && tailB ns)))

/-- sixteen numbers, in a block of their own -/
def boxN (ns : List Int) : Obj := .cells (ns.map iv).toArray 54

theorem boxN_cell {ns : List Int} {w : World} {b : Nat} (h : w.heap[b]? = some (boxN ns)) {k : Nat} (hk : k < ns.length) : w.cell? ⟨b, k, none⟩ = some (.int .i64 (at0 ns k)) := by
  refine cell_is h k ?_
  unfold at0
  simp [hk, iv]

def CntRel (ns : List Int) (i : Value) : Prop := ∃ k : Nat, i = .int .i64 (k : Int) ∧ k ≤ 5 ∧ ∀ j, j < k → inB3 (at0 ns (8 + j)) 0 4611686018427387903 = true

def JobPost (ns : List Int) (w : World) (e : Ending) (w' : World) : Prop := e = .returned (.bool (jobB ns)) ∧ Fr (fun _ => False) w w'

set_option maxRecDepth 100000 in
set_option maxHeartbeats 1000000 in
theorem job_1 (ns : List Int) (w : World) (hl : ns.length = 16) (hs : at0 ns 5 = 1) : Calls Try.prog 46 #[.agg (ns.map iv).toArray] w (JobPost ns w) := by
  have HC : Hid (∀ k, k < 16 → (w.alloc (boxN ns)).cell? ⟨w.heap.size, k, none⟩ = some (.int .i64 (at0 ns k))) := fun k hk => boxN_cell (heap_alloc_eq _ _) (by omega)
  have hst : StateOk (at0 ns 5) := by unfold StateOk; omega
  have HF := Lib.hid ((Fr.refl (fun _ => False) w).alloc (boxN ns))
  have c0 := HC.out 0 (by decide)
  have c1 := HC.out 1 (by decide)
  have c2 := HC.out 2 (by decide)
  have c5 := HC.out 5 (by decide)
  have c6 := HC.out 6 (by decide)
  have c7 := HC.out 7 (by decide)
  unfold boxN at *
  rw [hs] at c5
  have hsz : (ns.map iv).toArray.size = 16 := by simp [hl]
  go_enter Try.func46, Try.ntmps46
  go_wp2_with (fail)
  refine (within_any (at0 ns 6) 0 0 _).mono ?_
  rintro e w1 ⟨rfl, rfl⟩
  go_wp2_with (fail)
  refine (within_any (at0 ns 7) 0 0 _).mono ?_
  rintro e w1 ⟨rfl, rfl⟩
  have hd : dueB ns = inB3 (at0 ns 6) 0 0 := by unfold dueB; rw [if_neg (by omega)]
  have ho : orderB ns = inB3 (at0 ns 7) 0 0 := by unfold orderB; rw [if_neg (by omega)]
  generalize inB3 (at0 ns 6) 0 0 = d at *
  generalize inB3 (at0 ns 7) 0 0 = o at *
  go_wp2_with (fail)
  go_loop [29] (fun i => CntRel ns i) (fun i => 5 - (intOf i).toNat)
  case atStart => exact ⟨0, rfl, by omega, fun j hj => by omega⟩
  case round =>
    obtain ⟨k, rfl, hk, hall⟩ := hrel
    by_cases hlt : k < 5
    · have hc := HC.out (8 + k) (by omega)
      have HALL := Lib.hid hall
      clear hall
      go_wp2_with (fail)
      refine (within_any (at0 ns (8 + k)) 0 4611686018427387903 _).mono ?_
      rintro e w1 ⟨rfl, rfl⟩
      cases h1 : inB3 (at0 ns (8 + k)) 0 4611686018427387903
      · have hcb : countsB ns = false := by
          unfold countsB
          rw [List.all_eq_false]
          exact ⟨k, by simpa using hlt, by rw [h1]; simp⟩
        have he : jobB ns = false := by unfold jobB; rw [hcb]; simp
        go_wp2_with (fail)
        go_ret
        exact ⟨by rw [he]; rfl, HF.out⟩
      · go_wp2_with (fail)
        go_round
        case rel =>
          refine ⟨k + 1, rfl, by omega, fun j hj => ?_⟩
          by_cases hjk : j < k
          · exact HALL.out j hjk
          · have : j = k := by omega
            subst this
            exact h1
        case measure => simp [intOf]; omega
    · have hk5 : k = 5 := by omega
      subst hk5
      have hcb : countsB ns = true := by
        unfold countsB
        rw [List.all_eq_true]
        intro j hj
        exact hall j (by simpa using hj)
      clear hall
      cases d
      · have he : jobB ns = false := by unfold jobB; rw [hd]; simp
        go_wp2_with (fail)
        go_ret
        exact ⟨by rw [he]; rfl, HF.out⟩
      · cases o
        · have he : jobB ns = false := by unfold jobB; rw [ho]; simp
          go_wp2_with (fail)
          go_ret
          exact ⟨by rw [he]; rfl, HF.out⟩
        · go_wp2_with (fail)
          refine (within_any (at0 ns 0) 1 1099511627776 _).mono ?_
          rintro e w1 ⟨rfl, rfl⟩
          cases h1 : inB3 (at0 ns 0) 1 1099511627776
          · have he : jobB ns = false := by unfold jobB tailB; rw [h1]; simp
            go_wp2_with (fail)
            go_ret
            exact ⟨by rw [he]; rfl, HF.out⟩
          · go_wp2_with (fail)
            refine (within_any (at0 ns 1) 0 4294967295 _).mono ?_
            rintro e w1 ⟨rfl, rfl⟩
            cases h2 : inB3 (at0 ns 1) 0 4294967295
            · have he : jobB ns = false := by unfold jobB tailB; rw [h2]; simp
              go_wp2_with (fail)
              go_ret
              exact ⟨by rw [he]; rfl, HF.out⟩
            · go_wp2_with (fail)
              refine (within_any (at0 ns 2) 0 4294967295 _).mono ?_
              rintro e w1 ⟨rfl, rfl⟩
              have he : jobB ns = inB3 (at0 ns 2) 0 4294967295 := by unfold jobB tailB; rw [hcb, hd, ho, h1, h2, decide_eq_true hst]; simp
              go_wp2_with (fail)
              go_ret
              exact ⟨by rw [he]; rfl, HF.out⟩

set_option maxRecDepth 100000 in
set_option maxHeartbeats 1000000 in
theorem job_2 (ns : List Int) (w : World) (hl : ns.length = 16) (hs : at0 ns 5 = 2) : Calls Try.prog 46 #[.agg (ns.map iv).toArray] w (JobPost ns w) := by
  have HC : Hid (∀ k, k < 16 → (w.alloc (boxN ns)).cell? ⟨w.heap.size, k, none⟩ = some (.int .i64 (at0 ns k))) := fun k hk => boxN_cell (heap_alloc_eq _ _) (by omega)
  have hst : StateOk (at0 ns 5) := by unfold StateOk; omega
  have HF := Lib.hid ((Fr.refl (fun _ => False) w).alloc (boxN ns))
  have c0 := HC.out 0 (by decide)
  have c1 := HC.out 1 (by decide)
  have c2 := HC.out 2 (by decide)
  have c5 := HC.out 5 (by decide)
  have c6 := HC.out 6 (by decide)
  have c7 := HC.out 7 (by decide)
  unfold boxN at *
  rw [hs] at c5
  have hsz : (ns.map iv).toArray.size = 16 := by simp [hl]
  go_enter Try.func46, Try.ntmps46
  go_wp2_with (fail)
  refine (within_any (at0 ns 6) 0 0 _).mono ?_
  rintro e w1 ⟨rfl, rfl⟩
  go_wp2_with (fail)
  refine (within_any (at0 ns 7) 0 0 _).mono ?_
  rintro e w1 ⟨rfl, rfl⟩
  have ho : orderB ns = inB3 (at0 ns 7) 0 0 := by unfold orderB; rw [if_neg (by omega)]
  generalize inB3 (at0 ns 7) 0 0 = o at *
  go_wp2_with (fail)
  refine (within_any (at0 ns 6) 1 1103806595071 _).mono ?_
  rintro e w1 ⟨rfl, rfl⟩
  have hd : dueB ns = inB3 (at0 ns 6) 1 1103806595071 := by unfold dueB; rw [if_pos hs]
  generalize inB3 (at0 ns 6) 1 1103806595071 = d at *
  go_wp2_with (fail)
  go_loop [29] (fun i => CntRel ns i) (fun i => 5 - (intOf i).toNat)
  case atStart => exact ⟨0, rfl, by omega, fun j hj => by omega⟩
  case round =>
    obtain ⟨k, rfl, hk, hall⟩ := hrel
    by_cases hlt : k < 5
    · have hc := HC.out (8 + k) (by omega)
      have HALL := Lib.hid hall
      clear hall
      go_wp2_with (fail)
      refine (within_any (at0 ns (8 + k)) 0 4611686018427387903 _).mono ?_
      rintro e w1 ⟨rfl, rfl⟩
      cases h1 : inB3 (at0 ns (8 + k)) 0 4611686018427387903
      · have hcb : countsB ns = false := by
          unfold countsB
          rw [List.all_eq_false]
          exact ⟨k, by simpa using hlt, by rw [h1]; simp⟩
        have he : jobB ns = false := by unfold jobB; rw [hcb]; simp
        go_wp2_with (fail)
        go_ret
        exact ⟨by rw [he]; rfl, HF.out⟩
      · go_wp2_with (fail)
        go_round
        case rel =>
          refine ⟨k + 1, rfl, by omega, fun j hj => ?_⟩
          by_cases hjk : j < k
          · exact HALL.out j hjk
          · have : j = k := by omega
            subst this
            exact h1
        case measure => simp [intOf]; omega
    · have hk5 : k = 5 := by omega
      subst hk5
      have hcb : countsB ns = true := by
        unfold countsB
        rw [List.all_eq_true]
        intro j hj
        exact hall j (by simpa using hj)
      clear hall
      cases d
      · have he : jobB ns = false := by unfold jobB; rw [hd]; simp
        go_wp2_with (fail)
        go_ret
        exact ⟨by rw [he]; rfl, HF.out⟩
      · cases o
        · have he : jobB ns = false := by unfold jobB; rw [ho]; simp
          go_wp2_with (fail)
          go_ret
          exact ⟨by rw [he]; rfl, HF.out⟩
        · go_wp2_with (fail)
          refine (within_any (at0 ns 0) 1 1099511627776 _).mono ?_
          rintro e w1 ⟨rfl, rfl⟩
          cases h1 : inB3 (at0 ns 0) 1 1099511627776
          · have he : jobB ns = false := by unfold jobB tailB; rw [h1]; simp
            go_wp2_with (fail)
            go_ret
            exact ⟨by rw [he]; rfl, HF.out⟩
          · go_wp2_with (fail)
            refine (within_any (at0 ns 1) 0 4294967295 _).mono ?_
            rintro e w1 ⟨rfl, rfl⟩
            cases h2 : inB3 (at0 ns 1) 0 4294967295
            · have he : jobB ns = false := by unfold jobB tailB; rw [h2]; simp
              go_wp2_with (fail)
              go_ret
              exact ⟨by rw [he]; rfl, HF.out⟩
            · go_wp2_with (fail)
              refine (within_any (at0 ns 2) 0 4294967295 _).mono ?_
              rintro e w1 ⟨rfl, rfl⟩
              have he : jobB ns = inB3 (at0 ns 2) 0 4294967295 := by unfold jobB tailB; rw [hcb, hd, ho, h1, h2, decide_eq_true hst]; simp
              go_wp2_with (fail)
              go_ret
              exact ⟨by rw [he]; rfl, HF.out⟩

set_option maxRecDepth 100000 in
set_option maxHeartbeats 1000000 in
theorem job_4 (ns : List Int) (w : World) (hl : ns.length = 16) (hs : at0 ns 5 = 4) : Calls Try.prog 46 #[.agg (ns.map iv).toArray] w (JobPost ns w) := by
  have HC : Hid (∀ k, k < 16 → (w.alloc (boxN ns)).cell? ⟨w.heap.size, k, none⟩ = some (.int .i64 (at0 ns k))) := fun k hk => boxN_cell (heap_alloc_eq _ _) (by omega)
  have hst : StateOk (at0 ns 5) := by unfold StateOk; omega
  have HF := Lib.hid ((Fr.refl (fun _ => False) w).alloc (boxN ns))
  have c0 := HC.out 0 (by decide)
  have c1 := HC.out 1 (by decide)
  have c2 := HC.out 2 (by decide)
  have c5 := HC.out 5 (by decide)
  have c6 := HC.out 6 (by decide)
  have c7 := HC.out 7 (by decide)
  unfold boxN at *
  rw [hs] at c5
  have hsz : (ns.map iv).toArray.size = 16 := by simp [hl]
  go_enter Try.func46, Try.ntmps46
  go_wp2_with (fail)
  refine (within_any (at0 ns 6) 0 0 _).mono ?_
  rintro e w1 ⟨rfl, rfl⟩
  go_wp2_with (fail)
  refine (within_any (at0 ns 7) 0 0 _).mono ?_
  rintro e w1 ⟨rfl, rfl⟩
  have hd : dueB ns = inB3 (at0 ns 6) 0 0 := by unfold dueB; rw [if_neg (by omega)]
  generalize inB3 (at0 ns 6) 0 0 = d at *
  go_wp2_with (fail)
  refine (within_any (at0 ns 7) 1 4611686018427387903 _).mono ?_
  rintro e w1 ⟨rfl, rfl⟩
  have ho : orderB ns = inB3 (at0 ns 7) 1 4611686018427387903 := by unfold orderB; rw [if_pos hs]
  generalize inB3 (at0 ns 7) 1 4611686018427387903 = o at *
  go_wp2_with (fail)
  go_loop [29] (fun i => CntRel ns i) (fun i => 5 - (intOf i).toNat)
  case atStart => exact ⟨0, rfl, by omega, fun j hj => by omega⟩
  case round =>
    obtain ⟨k, rfl, hk, hall⟩ := hrel
    by_cases hlt : k < 5
    · have hc := HC.out (8 + k) (by omega)
      have HALL := Lib.hid hall
      clear hall
      go_wp2_with (fail)
      refine (within_any (at0 ns (8 + k)) 0 4611686018427387903 _).mono ?_
      rintro e w1 ⟨rfl, rfl⟩
      cases h1 : inB3 (at0 ns (8 + k)) 0 4611686018427387903
      · have hcb : countsB ns = false := by
          unfold countsB
          rw [List.all_eq_false]
          exact ⟨k, by simpa using hlt, by rw [h1]; simp⟩
        have he : jobB ns = false := by unfold jobB; rw [hcb]; simp
        go_wp2_with (fail)
        go_ret
        exact ⟨by rw [he]; rfl, HF.out⟩
      · go_wp2_with (fail)
        go_round
        case rel =>
          refine ⟨k + 1, rfl, by omega, fun j hj => ?_⟩
          by_cases hjk : j < k
          · exact HALL.out j hjk
          · have : j = k := by omega
            subst this
            exact h1
        case measure => simp [intOf]; omega
    · have hk5 : k = 5 := by omega
      subst hk5
      have hcb : countsB ns = true := by
        unfold countsB
        rw [List.all_eq_true]
        intro j hj
        exact hall j (by simpa using hj)
      clear hall
      cases d
      · have he : jobB ns = false := by unfold jobB; rw [hd]; simp
        go_wp2_with (fail)
        go_ret
        exact ⟨by rw [he]; rfl, HF.out⟩
      · cases o
        · have he : jobB ns = false := by unfold jobB; rw [ho]; simp
          go_wp2_with (fail)
          go_ret
          exact ⟨by rw [he]; rfl, HF.out⟩
        · go_wp2_with (fail)
          refine (within_any (at0 ns 0) 1 1099511627776 _).mono ?_
          rintro e w1 ⟨rfl, rfl⟩
          cases h1 : inB3 (at0 ns 0) 1 1099511627776
          · have he : jobB ns = false := by unfold jobB tailB; rw [h1]; simp
            go_wp2_with (fail)
            go_ret
            exact ⟨by rw [he]; rfl, HF.out⟩
          · go_wp2_with (fail)
            refine (within_any (at0 ns 1) 0 4294967295 _).mono ?_
            rintro e w1 ⟨rfl, rfl⟩
            cases h2 : inB3 (at0 ns 1) 0 4294967295
            · have he : jobB ns = false := by unfold jobB tailB; rw [h2]; simp
              go_wp2_with (fail)
              go_ret
              exact ⟨by rw [he]; rfl, HF.out⟩
            · go_wp2_with (fail)
              refine (within_any (at0 ns 2) 0 4294967295 _).mono ?_
              rintro e w1 ⟨rfl, rfl⟩
              have he : jobB ns = inB3 (at0 ns 2) 0 4294967295 := by unfold jobB tailB; rw [hcb, hd, ho, h1, h2, decide_eq_true hst]; simp
              go_wp2_with (fail)
              go_ret
              exact ⟨by rw [he]; rfl, HF.out⟩

set_option maxRecDepth 100000 in
theorem job_no (ns : List Int) (w : World) (hl : ns.length = 16) (hs : ¬ StateOk (at0 ns 5)) : Calls Try.prog 46 #[.agg (ns.map iv).toArray] w (JobPost ns w) := by
  have HC : Hid (∀ k, k < 16 → (w.alloc (boxN ns)).cell? ⟨w.heap.size, k, none⟩ = some (.int .i64 (at0 ns k))) := fun k hk => boxN_cell (heap_alloc_eq _ _) (by omega)
  have HF := Lib.hid ((Fr.refl (fun _ => False) w).alloc (boxN ns))
  have he : jobB ns = false := by unfold jobB; rw [decide_eq_false hs]; rfl
  have c5 := HC.out 5 (by decide)
  have c6 := HC.out 6 (by decide)
  have c7 := HC.out 7 (by decide)
  unfold boxN at *
  unfold StateOk at hs
  have h1 : (at0 ns 5 == 1) = false := by simp; omega
  have h2 : (at0 ns 5 == 2) = false := by simp; omega
  have h4 : (at0 ns 5 == 4) = false := by simp; omega
  have hsz : (ns.map iv).toArray.size = 16 := by simp [hl]
  clear hs
  go_enter Try.func46, Try.ntmps46
  go_wp2_with (fail)
  refine (within_any (at0 ns 6) 0 0 _).mono ?_
  rintro e w1 ⟨rfl, rfl⟩
  go_wp2_with (fail)
  refine (within_any (at0 ns 7) 0 0 _).mono ?_
  rintro e w1 ⟨rfl, rfl⟩
  go_wp2_with (fail)
  go_ret
  exact ⟨by rw [he]; rfl, HF.out⟩

theorem job_any (ns : List Int) (w : World) (hl : ns.length = 16) : Calls Try.prog 46 #[.agg (ns.map iv).toArray] w (JobPost ns w) := by
  by_cases hs : StateOk (at0 ns 5)
  · rcases hs with hs | hs | hs
    · exact job_1 ns w hl hs
    · exact job_2 ns w hl hs
    · exact job_4 ns w hl hs
  · exact job_no ns w hl hs

end Go.Proofs.Ytpecbhimnpjkdaa
