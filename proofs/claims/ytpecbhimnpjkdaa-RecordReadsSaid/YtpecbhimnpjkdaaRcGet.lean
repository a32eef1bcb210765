/- record.Get, walked. -/
import Derived.Test.YtpecbhimnpjkdaaRcGot
namespace Go.Proofs.Ytpecbhimnpjkdaa
open Go.RowKit Go.Sb

def zrec : Array Value := recC 0 (List.replicate 16 0) ⟨#[]⟩ (.slice none 0 0)
theorem zrec_size : (Try.prog.info? 29).map (·.size) = some zrec.size := info29s
theorem zrec_one : ∀ v ∈ zrec.toList, v.oneCell' = true := one19 _ _ _ _ _ _

/-- an exit that reads nothing -/
theorem get_none {w w' : World} {v1 : Value} (hv : v1 = .agg zrec) (hf : Fr (fun _ => False) w w') : GetPost noGot w (.returned (.tuple #[v1, .int .i64 102])) w' :=
  ⟨.slice none 0 0, by rw [hv]; rfl, Own.nil _ _ _ _, hf⟩

set_option maxRecDepth 100000 in
set_option maxHeartbeats 1000000 in
theorem get_nil (a : Option Addr) (c : Nat) (w : World) : Calls Try.prog 11 #[.slice a 0 c] w (GetPost noGot w) := by
  go_enter Try.func11, Try.ntmps11
  go_wp2_with ((refine store_guard _ _ _ _ rfl ?_); refine wpList_store_agg _ rfl _ _ 29 rfl w.heap.size 29 _ zrec rfl rfl zrec_size (heap_alloc_eq _ _) rfl zrec_one ?_; intro w2 hw2 hf2)
  refine bodyPost_ret (results_cell_tmp_row rfl _ _ w.heap.size 29 zrec (0, 0) _ rfl hw2 Try.underlying29 rfl zrec_size) rfl ?_
  exact get_none rfl (((Fr.refl _ w).alloc _).trans hf2 (fun x hx h => by omega))

theorem ob_cells {w : World} {F : Nat → Prop} {v : Value} {xs : List UInt8} {k : Nat} (h : OB 5 F w v xs) (hk : v.ownBlock = some k) : ∃ cs, w.heap[k]? = some (.cells cs 5 (0, 0)) := by
  rcases h.2 with ⟨rfl, _⟩ | ⟨g, cap, cur, rfl, _, hg, _⟩
  · cases hk
  · simp only [Value.ownBlock, Option.some.injEq] at hk
    subst hk
    exact ⟨cur, hg⟩

def GetRel (l : List Nat) (r : List UInt8) (b6 : Nat) (w4 : World) (i : Value) (wr : World) : Prop :=
  ∃ j : Nat, i = .int .i64 (j : Int) ∧ j ≤ l.length ∧ wr.heap[b6]? = some (boxN (putAt l r j)) ∧ Fr (fun x => x = b6) w4 wr ∧ ∀ j', j' < j → numAt r j' ≤ 4611686018427387903

set_option maxRecDepth 100000 in
set_option maxHeartbeats 4000000 in
theorem get_cons (v : Value) (z : UInt8) (r : List UInt8) (w : World) (hv : RB w v (z :: r)) (hbig : r.length ≤ 140737488360000) (g : Got) (hg : Hid (g = kindG (z.toNat : Int) r)) : Calls Try.prog 11 #[v] w (GetPost g w) := by
  have HBIG := Lib.hid hbig
  clear hbig
  have hv0 := hv
  obtain ⟨a, c, rfl, hc1, hc2, hc3⟩ := hv0
  rcases hc3 with ⟨rfl, rfl⟩ | ⟨b, o, s, rfl, hs, hcell⟩
  · simp at hc1
  obtain rfl := hs (by simp)
  have hc0 := hcell 0 (by simp)
  simp only [Nat.add_zero, List.getElem_cons_zero] at hc0
  have HCUT := Lib.hid (hv.cutl 1 (by simp))
  have hnz : (((z :: r).length : Int) == 0) = false := by simp; omega
  clear hcell hs hc1 hv
  have hbl := World.block_lt_of_cell? w _ hc0
  generalize hlen : (z :: r).length = n at *
  unfold byte at hc0
  go_enter Try.func11, Try.ntmps11
  go_wp2_with (fail)
  have hc0' : (w.alloc (.cells zrec 29)).cell? ⟨b, o, none⟩ = some (.int .u8 (z.toNat : Int)) := cell_fr' ((Fr.refl _ w).alloc _) hc0
  have HB2 := Lib.hid (heap_alloc_eq w (.cells zrec 29))
  have HF1 := Lib.hid ((Fr.refl (fun _ => False) w).alloc (.cells zrec 29))
  have HLE : Hid (w.heap.size < (w.alloc (.cells zrec 29)).heap.size) := Lib.hid (by simp)
  change (Code.region _ _ _).wp _ _ _ (w.alloc (.cells zrec 29))
  generalize (w.alloc (.cells zrec 29)) = w1 at *
  have h1n : 1 ≤ n := by rw [← hlen]; simp
  have hn0 : ¬ n = 0 := by omega
  have hzl : z.toNat < 256 := z.toNat_lt
  have hzw : IntKind.i64.wrap (z.toNat : Int) = (z.toNat : Int) := by rw [IntKind.wrap_i64]; omega
  refine wp_region_held_drew (S := fun w' => Fr (fun _ => False) w1 w') (by kernel_rfl) ((Fr.refl _ _).drew) (fun hS1 => ?_)
  refine wpAnyH_take (i := 0) (v := (.slice (some ⟨b, o, none⟩) n c)) rfl (by kernel_rfl) (by kernel_rfl) (by kernel_rfl) (fun _ _ _ h => h) (Or.inl ⟨by rfl, fun w' hS => by go_simp⟩) hS1 ?_
  try simp only [Act.put, List.getElem_toArray, List.getElem_cons_zero, List.setIfInBounds_toArray, List.set_cons_zero, List.set_cons_succ]
  refine wpAnyH_take (i := 1) (v := (.pointer (some ⟨b, o, none⟩))) rfl (by kernel_rfl) (by kernel_rfl) (by kernel_rfl) (fun _ _ _ h => h) (Or.inl ⟨by rfl, fun w' hS => by go_simp⟩) hS1 ?_
  try simp only [Act.put, List.getElem_toArray, List.getElem_cons_zero, List.getElem_cons_succ, List.setIfInBounds_toArray, List.set_cons_zero, List.set_cons_succ]
  refine wpAnyH_take (i := 2) (v := (.int .u8 (z.toNat : Int))) rfl (by kernel_rfl) (by kernel_rfl) (by kernel_rfl) (fun _ _ _ h => h) (Or.inl ⟨by rfl, fun w' hS => by have cc := cell_fr' hS hc0'; go_simp⟩) hS1 ?_
  try simp only [Act.put, List.getElem_toArray, List.getElem_cons_zero, List.getElem_cons_succ, List.setIfInBounds_toArray, List.set_cons_zero, List.set_cons_succ]
  refine wpAnyH_take (i := 3) (v := (.int .i64 (z.toNat : Int))) rfl (by kernel_rfl) (by kernel_rfl) (by kernel_rfl) (fun _ _ _ h => h) (Or.inl ⟨by rfl, fun w' hS => by go_simp⟩) hS1 ?_
  try simp only [Act.put, List.getElem_toArray, List.getElem_cons_zero, List.getElem_cons_succ, List.setIfInBounds_toArray, List.set_cons_zero, List.set_cons_succ]
  refine wpAnyH_take (i := 4) (v := (.slice (some ⟨b, o, none⟩) n c)) rfl (by kernel_rfl) (by kernel_rfl) (by kernel_rfl) (fun _ _ _ h => h) (Or.inl ⟨by rfl, fun w' hS => by go_simp⟩) hS1 ?_
  try simp only [Act.put, List.getElem_toArray, List.getElem_cons_zero, List.getElem_cons_succ, List.setIfInBounds_toArray, List.set_cons_zero, List.set_cons_succ]
  refine wpAnyH_take (i := 5) (v := (.slice (if c = 1 then some ⟨b, o, none⟩ else Option.map (fun x : Addr => x.add 1) (some ⟨b, o, none⟩)) (n - 1) (c - 1))) rfl (by kernel_rfl) (by kernel_rfl) (by kernel_rfl) (fun _ _ _ h => h) (yieldsIf_cutl (by rfl) _ _ rfl (some ⟨b, o, none⟩) n c 1 rfl rfl h1n) hS1 ?_
  try simp only [Act.put, List.getElem_toArray, List.getElem_cons_zero, List.getElem_cons_succ, List.setIfInBounds_toArray, List.set_cons_zero, List.set_cons_succ]
  have HV1 : Hid (RB w1.drew (.slice (if c = 1 then some ⟨b, o, none⟩ else Option.map (fun x : Addr => x.add 1) (some ⟨b, o, none⟩)) (n - 1) (c - 1)) r) := Lib.hid (HCUT.out.fr (HF1.out.trans hS1 (fun _ _ h => h)))
  have HF2 := Lib.hid (HF1.out.trans hS1 (fun _ _ h => h))
  have HB3 : Hid (w1.drew.heap[w.heap.size]? = some (.cells zrec 29 (0, 0))) := HB2
  have hrn : n - 1 = r.length := by rw [← hlen]; simp
  have hex : ∃ a1 c1, (if c = 1 then some ⟨b, o, none⟩ else Option.map (fun x : Addr => x.add 1) (some ⟨b, o, none⟩)) = a1 ∧ c - 1 = c1 := ⟨_, _, rfl, rfl⟩
  obtain ⟨a1, c1, he1, he2⟩ := hex
  rw [he1, he2, hrn] at HV1
  rw [he1, he2, hrn]
  clear he1 he2 hrn
  refine wpAnyH_take (i := 6) (v := (.int .i64 (z.toNat : Int))) rfl (by kernel_rfl) (by kernel_rfl) (by kernel_rfl) (fun _ _ _ h => h) (Or.inl ⟨by rfl, fun w' hS => by go_simp⟩) hS1 ?_
  try simp only [Act.put, List.getElem_toArray, List.getElem_cons_zero, List.getElem_cons_succ, List.setIfInBounds_toArray, List.set_cons_zero, List.set_cons_succ]
  refine wpAnyH_take (i := 7) (v := (.slice a1 r.length c1)) rfl (by kernel_rfl) (by kernel_rfl) (by kernel_rfl) (fun _ _ _ h => h) (Or.inl ⟨by rfl, fun w' hS => by go_simp⟩) hS1 ?_
  try simp only [Act.put, List.getElem_toArray, List.getElem_cons_zero, List.getElem_cons_succ, List.setIfInBounds_toArray, List.set_cons_zero]
  clear hS1 HF1 HB2 HCUT hc0' hc0 h1n hn0 hnz hlen hzw hzl
  refine wpAnyH_done (by kernel_rfl) ?_ _
  generalize hw2 : w1.drew = w2 at *
  have hlt2 : w.heap.size < w2.heap.size := by subst hw2; exact HLE.out
  clear hw2 HLE
  have HGX := hg
  clear hg
  generalize (z.toNat : Int) = k at *
  have hnil := nil51
  by_cases hk : Kind k
  · have HKIND : Hid (kindG k r = if r.length < 8 * (ofList k).length then noGot else if numsOk r (ofList k).length = false then noGot else restG k (putAt (ofList k) r (ofList k).length) (r.drop (8 * (ofList k).length))) := Lib.hid (by unfold kindG; rw [if_neg (fun h => h hk)])
    have HROW := Lib.hid (ofList_row hk w2)
    have HL16 : Hid (0 < (ofList k).length ∧ (ofList k).length ≤ 16 ∧ ∀ x ∈ ofList k, x < 16) := Lib.hid (by rcases hk with rfl | rfl | rfl | rfl <;> decide)
    go_wp2_with (fail)
    refine (of_yes _ w2 hk).mono ?_
    rintro e w3 ⟨rfl, rfl⟩
    have HF3 := Lib.hid (HF2.out.alloc (.cells ((ofList k).map natV).toArray 3))
    have hf23 : Fr (fun _ => False) w2 (w2.alloc (.cells ((ofList k).map natV).toArray 3)) := (Fr.refl _ _).alloc _
    have HB4 := Lib.hid (hf23.get HB3.out id)
    have HV3 := Lib.hid (HV1.out.fr hf23)
    have hlt3 : w.heap.size < (w2.alloc (.cells ((ofList k).map natV).toArray 3)).heap.size := by simp; omega
    have hlt4 : w2.heap.size < (w2.alloc (.cells ((ofList k).map natV).toArray 3)).heap.size := by simp
    have hne1 : w.heap.size ≠ w2.heap.size := by omega
    have HF23 := Lib.hid hf23
    clear hf23 HB3 HF2
    generalize (w2.alloc (.cells ((ofList k).map natV).toArray 3)) = w3 at *
    generalize hlist : ofList k = l at *
    have HLIST := Lib.hid hlist
    clear hlist
    generalize hb7 : w2.heap.size = b7 at *
    have HB7 := Lib.hid hb7
    clear hb7
    have hl16 := HL16.out.2.1
    have hrl := HV3.out.len
    unfold maxLen at hrl
    by_cases hsh : r.length < 8 * l.length
    · have HGG : Hid (g = noGot) := Lib.hid (by rw [HGX.out, HKIND.out, if_pos hsh])
      have hsh' : (r.length : Int) < 8 * (l.length : Int) := by omega
      clear hsh
      go_wp2_with (((refine store_guard _ _ _ _ rfl ?_); refine wpList_store_agg _ rfl _ _ 29 rfl w.heap.size 29 _ zrec rfl rfl zrec_size HB4.out rfl zrec_one ?_; intro w9 hw9 hf9))
      (try simp only [Exit.inBlock, Exit.then])
      refine bodyPost_ret (results_cell_tmp_row rfl _ _ w.heap.size 29 zrec (0, 0) _ rfl hw9 Try.underlying29 rfl zrec_size) rfl ?_
      rw [show g = noGot from by exact HGG.out]
      exact get_none rfl (HF3.out.trans hf9 (fun x hx h => by omega))
    · have HG2 : Hid (g = if numsOk r l.length = false then noGot else restG k (putAt l r l.length) (r.drop (8 * l.length))) := Lib.hid (by rw [HGX.out, HKIND.out, if_neg hsh])
      have hsh' : 8 * l.length ≤ r.length := by omega
      clear hsh HKIND
      go_wp2_with (fail)
      have hf34 : Fr (fun _ => False) w3 (w3.alloc (.cells #[.int .i64 0, .int .i64 0, .int .i64 0, .int .i64 0, .int .i64 0, .int .i64 0, .int .i64 0, .int .i64 0, .int .i64 0, .int .i64 0, .int .i64 0, .int .i64 0, .int .i64 0, .int .i64 0, .int .i64 0, .int .i64 0] 54)) := (Fr.refl _ _).alloc _
      have HF4 := Lib.hid (HF3.out.trans hf34 (fun _ _ h => h))
      have HB5 := Lib.hid (hf34.get HB4.out id)
      have HV4 := Lib.hid (HV3.out.fr hf34)
      have HROW4 := Lib.hid (HROW.out.fr hf34)
      have HN0 : Hid ((w3.alloc (.cells #[.int .i64 0, .int .i64 0, .int .i64 0, .int .i64 0, .int .i64 0, .int .i64 0, .int .i64 0, .int .i64 0, .int .i64 0, .int .i64 0, .int .i64 0, .int .i64 0, .int .i64 0, .int .i64 0, .int .i64 0, .int .i64 0] 54)).heap[w3.heap.size]? = some (boxN (putAt l r 0))) := Lib.hid (heap_alloc_eq _ _)
      have hlt5 : w3.heap.size < (w3.alloc (.cells #[.int .i64 0, .int .i64 0, .int .i64 0, .int .i64 0, .int .i64 0, .int .i64 0, .int .i64 0, .int .i64 0, .int .i64 0, .int .i64 0, .int .i64 0, .int .i64 0, .int .i64 0, .int .i64 0, .int .i64 0, .int .i64 0] 54)).heap.size := by simp
      have hlt6 : b7 < (w3.alloc (.cells #[.int .i64 0, .int .i64 0, .int .i64 0, .int .i64 0, .int .i64 0, .int .i64 0, .int .i64 0, .int .i64 0, .int .i64 0, .int .i64 0, .int .i64 0, .int .i64 0, .int .i64 0, .int .i64 0, .int .i64 0, .int .i64 0] 54)).heap.size := by omega
      have hne2 : b7 ≠ w3.heap.size := by omega
      have hne3 : w.heap.size ≠ w3.heap.size := by omega
      have hge1 : w.heap.size ≤ w3.heap.size := by omega
      have hge7 : b7 ≤ w3.heap.size := by omega
      have HF24 := Lib.hid (HF23.out.trans hf34 (fun _ _ h => h))
      clear hf34 HB4 HV3 HF3 HROW HF23
      generalize (w3.alloc (.cells #[.int .i64 0, .int .i64 0, .int .i64 0, .int .i64 0, .int .i64 0, .int .i64 0, .int .i64 0, .int .i64 0, .int .i64 0, .int .i64 0, .int .i64 0, .int .i64 0, .int .i64 0, .int .i64 0, .int .i64 0, .int .i64 0] 54)) = w4 at *
      generalize w3.heap.size = b6 at *
      go_loopw [7, 8, 9, 10, 38] (fun _ _ _ _ i wr => GetRel l r b6 w4 i wr) (fun _ _ _ _ i _ => l.length - (intOf i).toNat)
      case atStart => exact ⟨0, rfl, by omega, HN0.out, Fr.refl _ _, fun j' h => absurd h (by omega)⟩
      case round =>
        obtain ⟨j, rfl, hj, hx, hf, hall⟩ := hrel
        have HX := Lib.hid hx
        have HF := Lib.hid hf
        have HALL := Lib.hid hall
        clear hx hf hall
        by_cases hlt : j < l.length
        · have hlk : l[j] < 16 := HL16.out.2.2 _ (List.getElem_mem hlt)
          obtain ⟨bl, hbl7, hbl2, _⟩ := HROW4.out
          obtain rfl : b7 = bl := by cases hbl7; rfl
          have cr : wr.cell? ⟨b7, j, none⟩ = some (.int .i64 (l[j] : Int)) := cell_is (HF.out.get hbl2 hne2) j (by simp [natV, hlt])
          have cn : wr.cell? ⟨b6, l[j], none⟩ = some (.int .i64 (at0 (putAt l r j) l[j])) := boxN_cell HX.out (by rw [putAt_length]; exact hlk)
          have zn : wr.frozen? ⟨b6, l[j], none⟩ = false := frozen_of HX.out _
          have HVR : Hid (RB wr (.slice a1 r.length c1) r) := Lib.hid (HV1.out.fr (HF24.out.trans HF.out (fun k hk he => by have := HB7.out; omega)))
          have hjw : 8 * j + 8 ≤ r.length := by omega
          have HNA : Hid (un ((r.drop (8 * j)).take 8) = numAt r j) := Lib.hid rfl
          have hj8 : 8 * j + 8 - 8 * j = 8 := by omega
          have HJ8 := Lib.hid hj8
          clear hj8
          have hsetj : Hid ((putAt l r j).set l[j] (numAt r j : Int) = putAt l r (j + 1)) := Lib.hid (by rw [putAt]; congr 1; simp [hlt])
          have HE : Hid ((wr.setCell ⟨b6, l[j], none⟩ (.int .i64 (numAt r j : Int))).heap[b6]? = some (boxN (putAt l r (j + 1)))) := by
            refine Lib.hid ?_
            have h := heap_setCell_eq (l[j]) (.int .i64 (numAt r j : Int)) HX.out
            rw [h, ← hsetj.out]
            unfold boxN
            rw [List.map_set]
            simp [iv]
          have HF5 : Hid (Fr (fun x => x = b6) w4 (wr.setCell ⟨b6, l[j], none⟩ (.int .i64 (numAt r j : Int)))) := Lib.hid (HF.out.setCell (.inl rfl) _)
          clear hbl7 hbl2 hsetj
          generalize l[j] = at' at *
          by_cases hok : numAt r j ≤ 4611686018427387903
          · go_wp2_with (first | (refine wpList_cutlh rfl _ _ _ rfl a1 r.length c1 (8 * j) (8 * j + 8) 8 r rfl rfl rfl HVR.out (by omega) hjw HJ8.out ?_; intro b' c' hb'; have HBC := Lib.hid hb'; clear hb') | (go_at_call 27; refine (number_any _ _ _ HBC.out (by simp only [List.length_take]; omega)).mono ?_; rintro e w5 ⟨x, rfl, hx, rfl⟩; rw [HNA.out] at hx; have HXE := Lib.hid (hx hok); clear hx; rw [HNA.out, decide_eq_true hok]))
            refine ⟨⟨j + 1, by simp, by omega, ?_, ?_, fun j' hj' => ?_⟩, by simp [intOf]; omega⟩
            · rw [HXE.out]; exact HE.out
            · rw [HXE.out]; exact HF5.out
            · rcases Nat.lt_or_ge j' j with h | h
              · exact HALL.out j' h
              · rw [show j' = j by omega]; exact hok
          · have HGG : Hid (g = noGot) := Lib.hid (by
              rw [HG2.out, if_pos]
              rw [← Bool.not_eq_true]
              intro h
              unfold numsOk at h
              have := List.all_eq_true.1 h j (by simpa using hlt)
              exact hok (by simpa using this))
            have HF6 : Hid (Fr (fun _ => False) w wr) := Lib.hid (HF4.out.trans HF.out (fun x hx h => by omega))
            have hne9 : w.heap.size ≠ b6 := by omega
            have HB6 := Lib.hid (HF.out.get HB5.out hne9)
            go_wp2_with (first | (refine wpList_cutlh rfl _ _ _ rfl a1 r.length c1 (8 * j) (8 * j + 8) 8 r rfl rfl rfl HVR.out (by omega) hjw HJ8.out ?_; intro b' c' hb'; have HBC := Lib.hid hb'; clear hb') | (go_at_call 27; refine (number_any _ _ _ HBC.out (by simp only [List.length_take]; omega)).mono ?_; rintro e w5 ⟨x, rfl, hx, rfl⟩; clear hx; rw [HNA.out, decide_eq_false hok]) | ((refine store_guard _ _ _ _ rfl ?_); refine wpList_store_agg _ rfl _ _ 29 rfl w.heap.size 29 _ zrec rfl rfl zrec_size HB6.out rfl zrec_one ?_; intro w9 hw9 hf9))
            (try simp only [Exit.inBlock, Exit.then])
            refine bodyPost_ret (results_cell_tmp_row rfl _ _ w.heap.size 29 zrec (0, 0) _ rfl hw9 Try.underlying29 rfl zrec_size) rfl ?_
            rw [show g = noGot from by exact HGG.out]
            exact get_none rfl (HF6.out.trans hf9 (fun x hx h => by omega))
        · have hje : j = l.length := by omega
          subst hje
          have HG3 : Hid (g = restG k (putAt l r l.length) (r.drop (8 * l.length))) := Lib.hid (by
            rw [HG2.out, if_neg]
            rw [Bool.not_eq_false]
            unfold numsOk
            refine List.all_eq_true.2 (fun j hj => ?_)
            simpa using HALL.out j (by simpa using hj))
          have HVR : Hid (RB wr (.slice a1 r.length c1) r) := Lib.hid (HV1.out.fr (HF24.out.trans HF.out (fun k hk he => by have := HB7.out; omega)))
          have HF6 : Hid (Fr (fun _ => False) w wr) := Lib.hid (HF4.out.trans HF.out (fun x hx h => by omega))
          have hne9 : w.heap.size ≠ b6 := by omega
          have HB6 := Lib.hid (HF.out.get HB5.out hne9)
          have hns := putAt_length l r l.length
          clear HG2 HALL HV4 HV1 HROW4 HN0 HF24 HF HB5 HF4 HGX HLIST HL16 hne9
          have hltr : w.heap.size < wr.heap.size := lt_of_heap HB6.out
          have hi54 := info54o hns
          generalize putAt l r l.length = ns at *
          have htl : (r.drop (8 * l.length)).length ≤ 9223372036854775807 := by rw [List.length_drop]; omega
          have HTL := Lib.hid htl
          clear htl
          by_cases hk2 : k = 2
          · subst hk2
            have HG4 : Hid (g = textG 2 ns (r.drop (8 * l.length))) := Lib.hid (by rw [HG3.out, restG, if_pos rfl])
            cases htd : r.drop (8 * l.length) with
            | nil =>
              have hl0 : (r.drop (8 * l.length)).length = 0 := by rw [htd]; rfl
              have HGG : Hid (g = noGot) := Lib.hid (by rw [HG4.out, htd]; rfl)
              clear htd HG3 HG4
              go_wp2_with (first
                | (refine wpList_cutl rfl _ _ rfl a1 r.length c1 (8 * l.length) r rfl rfl HVR.out hsh' ?_; intro b' c' hb'; have HBC := Lib.hid hb'; clear hb'; generalize r.drop (8 * l.length) = t at *)
                | ((refine load_guard _ _ rfl ?_); refine wpList_load_row rfl 54 _ rfl b6 rfl 54 _ (0, 0) _ HX.out Try.underlying54 rfl hi54 ?_)
                | (go_at_call 28; refine (rec_any 2 ns _ hns).mono ?_; rintro e w5 ⟨rfl, hf5⟩; have HF7 := Lib.hid (HF6.out.trans hf5 (fun _ _ h => h)); have HB7' := Lib.hid (hf5.get HB6.out id); have hlt7 : w.heap.size < w5.heap.size := lt_of_heap HB7'.out; have HR5 := Lib.hid hf5; clear hf5)
                | ((refine store_guard _ _ _ _ rfl ?_); refine wpList_store_agg _ rfl _ _ 29 rfl w5.heap.size 29 _ (recC 2 ns ⟨#[]⟩ (.slice none 0 0)) rfl rfl info29s (heap_alloc_eq _ _) rfl (one19 _ _ _ _ _ _) ?_; intro w6 hw6 hf6; have HW6 := Lib.hid hw6; have hf57 : Fr (fun _ => False) w5 w6 := ((Fr.refl _ w5).alloc _).trans hf6 (fun x hx h => by omega); have HF8 := Lib.hid (HF7.out.trans hf57 (fun _ _ h => h)); have HB8 := Lib.hid (hf57.get HB7'.out id); have HR6 := Lib.hid (HR5.out.trans hf57 (fun _ _ h => h)); have hlt8 : w5.heap.size < w6.heap.size := lt_of_heap hw6; clear hw6 hf6 hf57)
                | ((refine store_guard _ _ _ _ rfl ?_); refine wpList_store_agg _ rfl _ _ 29 rfl w.heap.size 29 _ zrec rfl rfl zrec_size HB8.out rfl zrec_one ?_; intro w9 hw9 hf9))
              (try simp only [Exit.inBlock, Exit.then])
              refine bodyPost_ret (results_cell_tmp_row rfl _ _ w.heap.size 29 zrec (0, 0) _ rfl hw9 Try.underlying29 rfl zrec_size) rfl ?_
              rw [show g = noGot from by exact HGG.out]
              exact get_none rfl (HF8.out.trans hf9 (fun x hx h => by omega))
            | cons y u =>
              have HTE := Lib.hid htd
              have htn2 : Hid ((r.drop (8 * l.length)).length = u.length + 1) := Lib.hid (by rw [htd]; rfl)
              have htl2 := HTL.out
              generalize htn0 : (r.drop (8 * l.length)).length = tn at *
              have htn := Lib.hid htn0
              have hyl : y.toNat < 256 := y.toNat_lt
              have hyw : IntKind.i64.wrap (y.toNat : Int) = (y.toNat : Int) := by rw [IntKind.wrap_i64]; omega
              have htz : ¬ tn = 0 := by have := htn2.out; omega
              clear htd htn0
              by_cases hsy : u.length < y.toNat
              · have HGG : Hid (g = noGot) := Lib.hid (by rw [HG4.out, HTE.out, textG, if_pos hsy])
                have hsy' : (tn : Int) < 1 + (y.toNat : Int) := by have := htn2.out; omega
                clear hsy HG3 HG4
                go_wp2_with (first
                  | (refine wpList_cutl rfl _ _ rfl a1 r.length c1 (8 * l.length) r rfl rfl HVR.out hsh' ?_; intro b' c' hb'; rw [htn.out] at hb' ⊢; rw [HTE.out] at hb'; obtain ⟨bt, ot, rfl, hcy⟩ := rb_head hb'; have HBC := Lib.hid hb'; clear hb')
                  | ((refine load_guard _ _ rfl ?_); refine wpList_load_row rfl 54 _ rfl b6 rfl 54 _ (0, 0) _ HX.out Try.underlying54 rfl hi54 ?_)
                  | (go_at_call 28; refine (rec_any 2 ns _ hns).mono ?_; rintro e w5 ⟨rfl, hf5⟩; have HF7 := Lib.hid (HF6.out.trans hf5 (fun _ _ h => h)); have HB7' := Lib.hid (hf5.get HB6.out id); have hlt7 : w.heap.size < w5.heap.size := lt_of_heap HB7'.out; have HR5 := Lib.hid hf5; clear hf5)
                  | ((refine store_guard _ _ _ _ rfl ?_); refine wpList_store_agg _ rfl _ _ 29 rfl w5.heap.size 29 _ (recC 2 ns ⟨#[]⟩ (.slice none 0 0)) rfl rfl info29s (heap_alloc_eq _ _) rfl (one19 _ _ _ _ _ _) ?_; intro w6 hw6 hf6; have HW6 := Lib.hid hw6; have hf57 : Fr (fun _ => False) w5 w6 := ((Fr.refl _ w5).alloc _).trans hf6 (fun x hx h => by omega); have HF8 := Lib.hid (HF7.out.trans hf57 (fun _ _ h => h)); have HB8 := Lib.hid (hf57.get HB7'.out id); have HR6 := Lib.hid (HR5.out.trans hf57 (fun _ _ h => h)); have hlt8 : w5.heap.size < w6.heap.size := lt_of_heap hw6; have cy : w6.cell? ⟨bt, ot, none⟩ = some (.int .u8 (y.toNat : Int)) := cell_fr' HR6.out hcy; clear hw6 hf6 hf57)
                  | ((refine store_guard _ _ _ _ rfl ?_); refine wpList_store_agg _ rfl _ _ 29 rfl w.heap.size 29 _ zrec rfl rfl zrec_size HB8.out rfl zrec_one ?_; intro w9 hw9 hf9))
                (try simp only [Exit.inBlock, Exit.then])
                refine bodyPost_ret (results_cell_tmp_row rfl _ _ w.heap.size 29 zrec (0, 0) _ rfl hw9 Try.underlying29 rfl zrec_size) rfl ?_
                rw [show g = noGot from by exact HGG.out]
                exact get_none rfl (HF8.out.trans hf9 (fun x hx h => by omega))
              · obtain ⟨bd, hbd⟩ : ∃ bd, u.drop y.toNat = bd := ⟨_, rfl⟩
                obtain ⟨tk, htk⟩ : ∃ tk, u.take y.toNat = tk := ⟨_, rfl⟩
                have HTK : Hid (((y :: u).drop 1).take y.toNat = tk) := Lib.hid htk
                have HG5 : Hid (g = finG 2 ns ⟨tk.toArray⟩ bd) := Lib.hid (by rw [HG4.out, HTE.out, textG, if_neg hsy, hbd, htk])
                have hsy' : (1 + (y.toNat : Int)) ≤ (tn : Int) := by have := htn2.out; omega
                have hsy2 : decide ((tn : Int) < 1 + (y.toNat : Int)) = false := by simp only [decide_eq_false_iff_not]; omega
                have HDR : Hid ((y :: u).drop (1 + y.toNat) = bd) := Lib.hid (by rw [Nat.add_comm]; exact hbd)
                have HUL : Hid (bd.length ≤ 140737488360000) := Lib.hid (by
                  have h1 := htn2.out
                  have h2 : (r.drop (8 * l.length)).length = tn := htn.out
                  rw [List.length_drop] at h2
                  rw [← hbd, List.length_drop]
                  have := HBIG.out
                  omega)
                clear hbd htk
                clear hsy HG3 HG4
                by_cases hc0 : checkE 2 ns ⟨tk.toArray⟩ bd.length = 0
                · have HG6 : Hid (g = ⟨2, ns, ⟨tk.toArray⟩, bd, 0⟩) := Lib.hid (by rw [HG5.out, finG, if_pos hc0])
                  go_wp2_with (first
                    | (refine wpList_cutl rfl _ _ rfl a1 r.length c1 (8 * l.length) r rfl rfl HVR.out hsh' ?_; intro b' c' hb'; rw [htn.out] at hb' ⊢; rw [HTE.out] at hb'; obtain ⟨bt, ot, rfl, hcy⟩ := rb_head hb'; have HBC := Lib.hid hb'; clear hb')
                    | (refine wpList_cutlh rfl _ _ _ rfl (some ⟨bt, ot, none⟩) tn c' 1 (1 + y.toNat) y.toNat (y :: u) rfl rfl rfl (HBC.out.fr HR6.out) (by omega) (by have := htn2.out; omega) (by omega) ?_; intro b2' c2' hb2; rw [HTK.out] at hb2; have HB2' := Lib.hid hb2; clear hb2)
                    | (refine wpList_cutl rfl _ _ rfl (some ⟨bt, ot, none⟩) tn c' (1 + y.toNat) (y :: u) rfl rfl (HBC.out.fr ((HR6.out.setCell (.inr hle8) _).alloc _)) (by have := htn2.out; omega) ?_; intro b3' c3' hb3; rw [HDR.out] at hb3 ⊢; have HB3' := Lib.hid hb3; clear hb3)
                    | (refine wpList_conv rfl _ rfl _ _ rfl HB2'.out ?_)
                    | ((refine load_guard _ _ rfl ?_); refine wpList_load_row rfl 54 _ rfl b6 rfl 54 _ (0, 0) _ HX.out Try.underlying54 rfl hi54 ?_)
                    | (go_at_call 28; refine (rec_any 2 ns _ hns).mono ?_; rintro e w5 ⟨rfl, hf5⟩; have HF7 := Lib.hid (HF6.out.trans hf5 (fun _ _ h => h)); have HB7' := Lib.hid (hf5.get HB6.out id); have hlt7 : w.heap.size < w5.heap.size := lt_of_heap HB7'.out; have HR5 := Lib.hid hf5; clear hf5)
                    | ((refine store_guard _ _ _ _ rfl ?_); refine wpList_store_agg _ rfl _ _ 29 rfl w5.heap.size 29 _ (recC 2 ns ⟨#[]⟩ (.slice none 0 0)) rfl rfl info29s (heap_alloc_eq _ _) rfl (one19 _ _ _ _ _ _) ?_; intro w6 hw6 hf6; have HW6 := Lib.hid hw6; have hf57 : Fr (fun _ => False) w5 w6 := ((Fr.refl _ w5).alloc _).trans hf6 (fun x hx h => by omega); have HF8 := Lib.hid (HF7.out.trans hf57 (fun _ _ h => h)); have HB8 := Lib.hid (hf57.get HB7'.out id); have HR6 := Lib.hid (HR5.out.trans hf57 (fun _ _ h => h)); have hlt8 : w5.heap.size < w6.heap.size := lt_of_heap hw6; have cy : w6.cell? ⟨bt, ot, none⟩ = some (.int .u8 (y.toNat : Int)) := cell_fr' HR6.out hcy; have d17 : w6.cell? ⟨w5.heap.size, 17, none⟩ = some (.string ⟨#[]⟩) := cell_is hw6 17 rfl; have z17 := frozen_of hw6 17; have hle8 : wr.heap.size ≤ w5.heap.size := HR5.out.size; clear hw6 hf6 hf57)
                    | (at_builtin; refine wpList_append_Own _ rfl _ _ 22 rfl 5 (.int .u8 0) 1 1 Try.underlying22 info5 rfl (by decide) (.slice (some ⟨w6.heap.size, 0, none⟩) 0 0) 0 [] rfl (by have h := Own.empty 5 1 (fun x => w.heap.size ≤ x) (w6.setCell ⟨w5.heap.size, 17, none⟩ (.string ⟨tk.toArray⟩)) (by simp; omega); rw [World.size_setCell] at h; exact h) _ bd.length _ rfl HB3'.out.src (by have := HUL.out; unfold maxLen; omega) (by have := HUL.out; omega) ?_; intro v7 w7 hv7 hf7 hn7 _; have hW6s : (w6.setCell ⟨w5.heap.size, 17, none⟩ (.string ⟨tk.toArray⟩)).heap[w5.heap.size]? = some (.cells (recC 2 ns ⟨tk.toArray⟩ (.slice none 0 0)) 29 (0, 0)) := heap_setCell_eq 17 _ HW6.out; have HW7 := Lib.hid (hf7.get ((heap_alloc_lt _ _ _ (by simp; omega)).trans hW6s) (fun h => by simp [Value.ownBlock] at h; omega)); have HF9 : Hid (Fr (fun _ => False) w w7) := Lib.hid (((HF8.out.setCell (.inr (by simp; omega)) _).alloc _).trans hf7 (fun x hx h => by simp [Value.ownBlock] at h; omega)); have HB9 := Lib.hid (hf7.get ((heap_alloc_lt _ _ _ (by simp; omega)).trans ((heap_setCell_ne _ _ _ _ (by simp; omega)).trans HB8.out)) (fun h => by simp [Value.ownBlock] at h; omega)); have HOB : Hid (OB 5 (fun x => w.heap.size ≤ x) w7 v7 bd) := Lib.hid (by have h := OB.app (xs := []) hv7 (fun _ h => h) (fun x hx => by simp at hx; omega); exact h); obtain ⟨a7, c7, rfl, -⟩ := HOB.out.rb; have d18 : w7.cell? ⟨w5.heap.size, 18, none⟩ = some (.slice none 0 0) := cell_is HW7.out 18 rfl; have z18 := frozen_of HW7.out 18; have hlt9 : w5.heap.size < w7.heap.size := lt_of_heap HW7.out; clear hv7 hf7 hn7 hW6s)
                    | ((refine load_guard _ _ rfl ?_); refine wpList_load_row_w (by rfl) 29 _ rfl w5.heap.size rfl 29 (recC 2 ns ⟨tk.toArray⟩ (.slice a7 bd.length c7)) (0, 0) _ (heap_setCell_eq 18 _ HW7.out) Try.underlying29 rfl info29s ?_)
                    | (go_at_call 14; refine (check_any 2 ns ⟨tk.toArray⟩ a7 bd.length c7 _ hns).mono ?_; rintro e w8 ⟨rfl, hf8⟩; have hW8 := hf8.get (heap_setCell_eq 18 (.slice a7 bd.length c7) HW7.out) id; have HW8 : Hid (w8.heap[w5.heap.size]? = some (.cells (recC 2 ns ⟨tk.toArray⟩ (.slice a7 bd.length c7)) 29 (0, 0))) := Lib.hid hW8; have HFA : Hid (Fr (fun _ => False) w w8) := Lib.hid ((HF9.out.setCell (.inr (by simp; omega)) _).trans hf8 (fun _ _ h => h)); have HBA := Lib.hid (hf8.get ((heap_setCell_ne _ _ _ _ (by simp; omega)).trans HB9.out) id); have HOC : Hid (OB 5 (fun x => w.heap.size ≤ x) w8 (.slice a7 bd.length c7) bd) := Lib.hid (HOB.out.of (fun k hk hb => (hf8.block k (by simpa using hk) id).trans (heap_setCell_ne _ _ _ _ (fun he => by have := ob_cells HOB.out hb; rw [he, HW7.out] at this; simp at this)))); clear hf8 hW8; rw [hc0])
                    | ((refine load_guard _ _ rfl ?_); refine wpList_load_row rfl 29 _ rfl w5.heap.size rfl 29 _ (0, 0) _ HW8.out Try.underlying29 rfl info29s ?_)
                    | ((refine store_guard _ _ _ _ rfl ?_); refine wpList_store_agg _ rfl _ _ 29 rfl w.heap.size 29 _ (recC 2 ns ⟨tk.toArray⟩ (.slice a7 bd.length c7)) rfl rfl info29s HBA.out rfl (one19 _ _ _ _ _ _) ?_; intro w9 hw9 hf9))
                  (try simp only [Exit.inBlock, Exit.then])
                  refine bodyPost_ret (results_cell_tmp_row rfl _ _ w.heap.size 29 _ (0, 0) _ rfl hw9 Try.underlying29 rfl info29s) rfl ?_
                  rw [HG6.out]
                  exact ⟨_, rfl, HOC.out.of (fun k hk hb => hf9.block k hk (fun he => by have := ob_cells HOC.out hb; rw [he, HBA.out] at this; simp at this)), HFA.out.trans hf9 (fun x hx h => by omega)⟩
                · have HGG : Hid (g = noGot) := Lib.hid (by rw [HG5.out, finG, if_neg hc0])
                  have hc1 : (checkE 2 ns ⟨tk.toArray⟩ bd.length == 0) = false := by simpa using hc0
                  clear hc0
                  generalize hcc : checkE 2 ns ⟨tk.toArray⟩ bd.length = ce at *
                  have HCC := Lib.hid hcc
                  clear hcc
                  go_wp2_with (first
                    | (refine wpList_cutl rfl _ _ rfl a1 r.length c1 (8 * l.length) r rfl rfl HVR.out hsh' ?_; intro b' c' hb'; rw [htn.out] at hb' ⊢; rw [HTE.out] at hb'; obtain ⟨bt, ot, rfl, hcy⟩ := rb_head hb'; have HBC := Lib.hid hb'; clear hb')
                    | (refine wpList_cutlh rfl _ _ _ rfl (some ⟨bt, ot, none⟩) tn c' 1 (1 + y.toNat) y.toNat (y :: u) rfl rfl rfl (HBC.out.fr HR6.out) (by omega) (by have := htn2.out; omega) (by omega) ?_; intro b2' c2' hb2; rw [HTK.out] at hb2; have HB2' := Lib.hid hb2; clear hb2)
                    | (refine wpList_cutl rfl _ _ rfl (some ⟨bt, ot, none⟩) tn c' (1 + y.toNat) (y :: u) rfl rfl (HBC.out.fr ((HR6.out.setCell (.inr hle8) _).alloc _)) (by have := htn2.out; omega) ?_; intro b3' c3' hb3; rw [HDR.out] at hb3 ⊢; have HB3' := Lib.hid hb3; clear hb3)
                    | (refine wpList_conv rfl _ rfl _ _ rfl HB2'.out ?_)
                    | ((refine load_guard _ _ rfl ?_); refine wpList_load_row rfl 54 _ rfl b6 rfl 54 _ (0, 0) _ HX.out Try.underlying54 rfl hi54 ?_)
                    | (go_at_call 28; refine (rec_any 2 ns _ hns).mono ?_; rintro e w5 ⟨rfl, hf5⟩; have HF7 := Lib.hid (HF6.out.trans hf5 (fun _ _ h => h)); have HB7' := Lib.hid (hf5.get HB6.out id); have hlt7 : w.heap.size < w5.heap.size := lt_of_heap HB7'.out; have HR5 := Lib.hid hf5; clear hf5)
                    | ((refine store_guard _ _ _ _ rfl ?_); refine wpList_store_agg _ rfl _ _ 29 rfl w5.heap.size 29 _ (recC 2 ns ⟨#[]⟩ (.slice none 0 0)) rfl rfl info29s (heap_alloc_eq _ _) rfl (one19 _ _ _ _ _ _) ?_; intro w6 hw6 hf6; have HW6 := Lib.hid hw6; have hf57 : Fr (fun _ => False) w5 w6 := ((Fr.refl _ w5).alloc _).trans hf6 (fun x hx h => by omega); have HF8 := Lib.hid (HF7.out.trans hf57 (fun _ _ h => h)); have HB8 := Lib.hid (hf57.get HB7'.out id); have HR6 := Lib.hid (HR5.out.trans hf57 (fun _ _ h => h)); have hlt8 : w5.heap.size < w6.heap.size := lt_of_heap hw6; have cy : w6.cell? ⟨bt, ot, none⟩ = some (.int .u8 (y.toNat : Int)) := cell_fr' HR6.out hcy; have d17 : w6.cell? ⟨w5.heap.size, 17, none⟩ = some (.string ⟨#[]⟩) := cell_is hw6 17 rfl; have z17 := frozen_of hw6 17; have hle8 : wr.heap.size ≤ w5.heap.size := HR5.out.size; clear hw6 hf6 hf57)
                    | (at_builtin; refine wpList_append_Own _ rfl _ _ 22 rfl 5 (.int .u8 0) 1 1 Try.underlying22 info5 rfl (by decide) (.slice (some ⟨w6.heap.size, 0, none⟩) 0 0) 0 [] rfl (by have h := Own.empty 5 1 (fun x => w.heap.size ≤ x) (w6.setCell ⟨w5.heap.size, 17, none⟩ (.string ⟨tk.toArray⟩)) (by simp; omega); rw [World.size_setCell] at h; exact h) _ bd.length _ rfl HB3'.out.src (by have := HUL.out; unfold maxLen; omega) (by have := HUL.out; omega) ?_; intro v7 w7 hv7 hf7 hn7 _; have hW6s : (w6.setCell ⟨w5.heap.size, 17, none⟩ (.string ⟨tk.toArray⟩)).heap[w5.heap.size]? = some (.cells (recC 2 ns ⟨tk.toArray⟩ (.slice none 0 0)) 29 (0, 0)) := heap_setCell_eq 17 _ HW6.out; have HW7 := Lib.hid (hf7.get ((heap_alloc_lt _ _ _ (by simp; omega)).trans hW6s) (fun h => by simp [Value.ownBlock] at h; omega)); have HF9 : Hid (Fr (fun _ => False) w w7) := Lib.hid (((HF8.out.setCell (.inr (by simp; omega)) _).alloc _).trans hf7 (fun x hx h => by simp [Value.ownBlock] at h; omega)); have HB9 := Lib.hid (hf7.get ((heap_alloc_lt _ _ _ (by simp; omega)).trans ((heap_setCell_ne _ _ _ _ (by simp; omega)).trans HB8.out)) (fun h => by simp [Value.ownBlock] at h; omega)); have HOB : Hid (OB 5 (fun x => w.heap.size ≤ x) w7 v7 bd) := Lib.hid (by have h := OB.app (xs := []) hv7 (fun _ h => h) (fun x hx => by simp at hx; omega); exact h); obtain ⟨a7, c7, rfl, -⟩ := HOB.out.rb; have d18 : w7.cell? ⟨w5.heap.size, 18, none⟩ = some (.slice none 0 0) := cell_is HW7.out 18 rfl; have z18 := frozen_of HW7.out 18; have hlt9 : w5.heap.size < w7.heap.size := lt_of_heap HW7.out; clear hv7 hf7 hn7 hW6s)
                    | ((refine load_guard _ _ rfl ?_); refine wpList_load_row_w (by rfl) 29 _ rfl w5.heap.size rfl 29 (recC 2 ns ⟨tk.toArray⟩ (.slice a7 bd.length c7)) (0, 0) _ (heap_setCell_eq 18 _ HW7.out) Try.underlying29 rfl info29s ?_)
                    | (go_at_call 14; refine (check_any 2 ns ⟨tk.toArray⟩ a7 bd.length c7 _ hns).mono ?_; rintro e w8 ⟨rfl, hf8⟩; have hW8 := hf8.get (heap_setCell_eq 18 (.slice a7 bd.length c7) HW7.out) id; have HW8 : Hid (w8.heap[w5.heap.size]? = some (.cells (recC 2 ns ⟨tk.toArray⟩ (.slice a7 bd.length c7)) 29 (0, 0))) := Lib.hid hW8; have HFA : Hid (Fr (fun _ => False) w w8) := Lib.hid ((HF9.out.setCell (.inr (by simp; omega)) _).trans hf8 (fun _ _ h => h)); have HBA := Lib.hid (hf8.get ((heap_setCell_ne _ _ _ _ (by simp; omega)).trans HB9.out) id); have HOC : Hid (OB 5 (fun x => w.heap.size ≤ x) w8 (.slice a7 bd.length c7) bd) := Lib.hid (HOB.out.of (fun k hk hb => (hf8.block k (by simpa using hk) id).trans (heap_setCell_ne _ _ _ _ (fun he => by have := ob_cells HOB.out hb; rw [he, HW7.out] at this; simp at this)))); clear hf8 hW8; rw [HCC.out])
                    | ((refine store_guard _ _ _ _ rfl ?_); refine wpList_store_agg _ rfl _ _ 29 rfl w.heap.size 29 _ zrec rfl rfl zrec_size HBA.out rfl zrec_one ?_; intro w9 hw9 hf9))
                  (try simp only [Exit.inBlock, Exit.then])
                  refine bodyPost_ret (results_cell_tmp_row rfl _ _ w.heap.size 29 zrec (0, 0) _ rfl hw9 Try.underlying29 rfl zrec_size) rfl ?_
                  rw [show g = noGot from by exact HGG.out]
                  exact get_none rfl (HFA.out.trans hf9 (fun x hx h => by omega))
          · have hk2' : (k == 2) = false := by simpa using hk2
            have HG4 : Hid (g = if r.drop (8 * l.length) = [] then finG k ns ⟨#[]⟩ [] else noGot) := Lib.hid (by rw [HG3.out, restG, if_neg hk2])
            by_cases ht0 : r.drop (8 * l.length) = []
            · have hl0 : (r.drop (8 * l.length)).length = 0 := by rw [ht0]; rfl
              have HG5 : Hid (g = finG k ns ⟨#[]⟩ []) := Lib.hid (by rw [HG4.out, if_pos ht0])
              clear ht0 HG3 HG4
              by_cases hc0 : checkE k ns ⟨#[]⟩ 0 = 0
              · have HG6 : Hid (g = ⟨k, ns, ⟨#[]⟩, [], 0⟩) := Lib.hid (by rw [HG5.out, finG, List.length_nil, if_pos hc0])
                go_wp2_with (first
                  | (refine wpList_cutl rfl _ _ rfl a1 r.length c1 (8 * l.length) r rfl rfl HVR.out hsh' ?_; intro b' c' hb'; have HBC := Lib.hid hb'; clear hb'; generalize r.drop (8 * l.length) = t at *)
                  | ((refine load_guard _ _ rfl ?_); refine wpList_load_row rfl 54 _ rfl b6 rfl 54 _ (0, 0) _ HX.out Try.underlying54 rfl hi54 ?_)
                  | (go_at_call 28; refine (rec_any k ns _ hns).mono ?_; rintro e w5 ⟨rfl, hf5⟩; have HF7 := Lib.hid (HF6.out.trans hf5 (fun _ _ h => h)); have HB7' := Lib.hid (hf5.get HB6.out id); have hlt7 : w.heap.size < w5.heap.size := lt_of_heap HB7'.out; have HR5 := Lib.hid hf5; clear hf5)
                  | ((refine store_guard _ _ _ _ rfl ?_); refine wpList_store_agg _ rfl _ _ 29 rfl w5.heap.size 29 _ (recC k ns ⟨#[]⟩ (.slice none 0 0)) rfl rfl info29s (heap_alloc_eq _ _) rfl (one19 _ _ _ _ _ _) ?_; intro w6 hw6 hf6; have HW6 := Lib.hid hw6; have hf57 : Fr (fun _ => False) w5 w6 := ((Fr.refl _ w5).alloc _).trans hf6 (fun x hx h => by omega); have HF8 := Lib.hid (HF7.out.trans hf57 (fun _ _ h => h)); have HB8 := Lib.hid (hf57.get HB7'.out id); have HR6 := Lib.hid (HR5.out.trans hf57 (fun _ _ h => h)); have hlt8 : w5.heap.size < w6.heap.size := lt_of_heap hw6; clear hw6 hf6 hf57)
                  | ((refine load_guard _ _ rfl ?_); refine wpList_load_row_w (by rfl) 29 _ rfl w5.heap.size rfl 29 _ (0, 0) _ HW6.out Try.underlying29 rfl info29s ?_)
                  | (go_at_call 14; refine (check_any k ns ⟨#[]⟩ none 0 0 w6 hns).mono ?_; rintro e w7 ⟨rfl, hf7⟩; have HF9 := Lib.hid (HF8.out.trans hf7 (fun _ _ h => h)); have HB9 := Lib.hid (hf7.get HB8.out id); have HW7 := Lib.hid (hf7.get HW6.out id); clear hf7; rw [hc0])
                  | ((refine load_guard _ _ rfl ?_); refine wpList_load_row rfl 29 _ rfl w5.heap.size rfl 29 _ (0, 0) _ HW7.out Try.underlying29 rfl info29s ?_)
                  | ((refine store_guard _ _ _ _ rfl ?_); refine wpList_store_agg _ rfl _ _ 29 rfl w.heap.size 29 _ (recC k ns ⟨#[]⟩ (.slice none 0 0)) rfl rfl info29s HB9.out rfl (one19 _ _ _ _ _ _) ?_; intro w9 hw9 hf9))
                (try simp only [Exit.inBlock, Exit.then])
                refine bodyPost_ret (results_cell_tmp_row rfl _ _ w.heap.size 29 _ (0, 0) _ rfl hw9 Try.underlying29 rfl info29s) rfl ?_
                rw [HG6.out]
                exact ⟨.slice none 0 0, rfl, Own.nil _ _ _ _, HF9.out.trans hf9 (fun x hx h => by omega)⟩
              · have HGG : Hid (g = noGot) := Lib.hid (by rw [HG5.out, finG, List.length_nil, if_neg hc0])
                have hc1 : (checkE k ns ⟨#[]⟩ 0 == 0) = false := by simpa using hc0
                clear hc0
                generalize hcc : checkE k ns ⟨#[]⟩ 0 = ce at *
                have HCC := Lib.hid hcc
                clear hcc
                go_wp2_with (first
                  | (refine wpList_cutl rfl _ _ rfl a1 r.length c1 (8 * l.length) r rfl rfl HVR.out hsh' ?_; intro b' c' hb'; have HBC := Lib.hid hb'; clear hb'; generalize r.drop (8 * l.length) = t at *)
                  | ((refine load_guard _ _ rfl ?_); refine wpList_load_row rfl 54 _ rfl b6 rfl 54 _ (0, 0) _ HX.out Try.underlying54 rfl hi54 ?_)
                  | (go_at_call 28; refine (rec_any k ns _ hns).mono ?_; rintro e w5 ⟨rfl, hf5⟩; have HF7 := Lib.hid (HF6.out.trans hf5 (fun _ _ h => h)); have HB7' := Lib.hid (hf5.get HB6.out id); have hlt7 : w.heap.size < w5.heap.size := lt_of_heap HB7'.out; have HR5 := Lib.hid hf5; clear hf5)
                  | ((refine store_guard _ _ _ _ rfl ?_); refine wpList_store_agg _ rfl _ _ 29 rfl w5.heap.size 29 _ (recC k ns ⟨#[]⟩ (.slice none 0 0)) rfl rfl info29s (heap_alloc_eq _ _) rfl (one19 _ _ _ _ _ _) ?_; intro w6 hw6 hf6; have HW6 := Lib.hid hw6; have hf57 : Fr (fun _ => False) w5 w6 := ((Fr.refl _ w5).alloc _).trans hf6 (fun x hx h => by omega); have HF8 := Lib.hid (HF7.out.trans hf57 (fun _ _ h => h)); have HB8 := Lib.hid (hf57.get HB7'.out id); have HR6 := Lib.hid (HR5.out.trans hf57 (fun _ _ h => h)); have hlt8 : w5.heap.size < w6.heap.size := lt_of_heap hw6; clear hw6 hf6 hf57)
                  | ((refine load_guard _ _ rfl ?_); refine wpList_load_row_w (by rfl) 29 _ rfl w5.heap.size rfl 29 _ (0, 0) _ HW6.out Try.underlying29 rfl info29s ?_)
                  | (go_at_call 14; refine (check_any k ns ⟨#[]⟩ none 0 0 w6 hns).mono ?_; rintro e w7 ⟨rfl, hf7⟩; have HF9 := Lib.hid (HF8.out.trans hf7 (fun _ _ h => h)); have HB9 := Lib.hid (hf7.get HB8.out id); have HW7 := Lib.hid (hf7.get HW6.out id); clear hf7; rw [HCC.out])
                  | ((refine store_guard _ _ _ _ rfl ?_); refine wpList_store_agg _ rfl _ _ 29 rfl w.heap.size 29 _ zrec rfl rfl zrec_size HB9.out rfl zrec_one ?_; intro w9 hw9 hf9))
                (try simp only [Exit.inBlock, Exit.then])
                refine bodyPost_ret (results_cell_tmp_row rfl _ _ w.heap.size 29 zrec (0, 0) _ rfl hw9 Try.underlying29 rfl zrec_size) rfl ?_
                rw [show g = noGot from by exact HGG.out]
                exact get_none rfl (HF9.out.trans hf9 (fun x hx h => by omega))
            · have HGG : Hid (g = noGot) := Lib.hid (by rw [HG4.out, if_neg ht0])
              have hlp : ¬ (r.drop (8 * l.length)).length = 0 := by rw [List.length_eq_zero_iff]; exact ht0
              have hlp2 : 0 < ((r.drop (8 * l.length)).length : Int) := by omega
              clear ht0 HG3 HG4
              go_wp2_with (first
                | (refine wpList_cutl rfl _ _ rfl a1 r.length c1 (8 * l.length) r rfl rfl HVR.out hsh' ?_; intro b' c' hb'; have HBC := Lib.hid hb'; clear hb'; generalize r.drop (8 * l.length) = t at *)
                | ((refine load_guard _ _ rfl ?_); refine wpList_load_row rfl 54 _ rfl b6 rfl 54 _ (0, 0) _ HX.out Try.underlying54 rfl hi54 ?_)
                | (go_at_call 28; refine (rec_any k ns _ hns).mono ?_; rintro e w5 ⟨rfl, hf5⟩; have HF7 := Lib.hid (HF6.out.trans hf5 (fun _ _ h => h)); have HB7' := Lib.hid (hf5.get HB6.out id); have hlt7 : w.heap.size < w5.heap.size := lt_of_heap HB7'.out; have HR5 := Lib.hid hf5; clear hf5)
                | ((refine store_guard _ _ _ _ rfl ?_); refine wpList_store_agg _ rfl _ _ 29 rfl w5.heap.size 29 _ (recC k ns ⟨#[]⟩ (.slice none 0 0)) rfl rfl info29s (heap_alloc_eq _ _) rfl (one19 _ _ _ _ _ _) ?_; intro w6 hw6 hf6; have HW6 := Lib.hid hw6; have hf57 : Fr (fun _ => False) w5 w6 := ((Fr.refl _ w5).alloc _).trans hf6 (fun x hx h => by omega); have HF8 := Lib.hid (HF7.out.trans hf57 (fun _ _ h => h)); have HB8 := Lib.hid (hf57.get HB7'.out id); have HR6 := Lib.hid (HR5.out.trans hf57 (fun _ _ h => h)); have hlt8 : w5.heap.size < w6.heap.size := lt_of_heap hw6; clear hw6 hf6 hf57)
                | ((refine store_guard _ _ _ _ rfl ?_); refine wpList_store_agg _ rfl _ _ 29 rfl w.heap.size 29 _ zrec rfl rfl zrec_size HB8.out rfl zrec_one ?_; intro w9 hw9 hf9))
              (try simp only [Exit.inBlock, Exit.then])
              refine bodyPost_ret (results_cell_tmp_row rfl _ _ w.heap.size 29 zrec (0, 0) _ rfl hw9 Try.underlying29 rfl zrec_size) rfl ?_
              rw [show g = noGot from by exact HGG.out]
              exact get_none rfl (HF8.out.trans hf9 (fun x hx h => by omega))
  · have HNO := Lib.hid (of_no _ w2 hk)
    go_wp2_with (first | (go_at_call 26; refine HNO.out.mono ?_; rintro e w1 ⟨rfl, rfl⟩) | ((refine store_guard _ _ _ _ rfl ?_); refine wpList_store_agg _ rfl _ _ 29 rfl w.heap.size 29 _ zrec rfl rfl zrec_size HB3.out rfl zrec_one ?_; intro w9 hw9 hf9))
    (try simp only [Exit.inBlock, Exit.then])
    refine bodyPost_ret (results_cell_tmp_row rfl _ _ w.heap.size 29 zrec (0, 0) _ rfl hw9 Try.underlying29 rfl zrec_size) rfl ?_
    rw [show g = noGot from by rw [HGX.out]; exact if_pos hk]
    exact get_none rfl (HF2.out.trans hf9 (fun x hx h => by omega))

theorem get_any (v : Value) (xs : List UInt8) (w : World) (hv : RB w v xs) (hbig : xs.length ≤ 140737488360000) : Calls Try.prog 11 #[v] w (GetPost (getG xs) w) := by
  cases xs with
  | nil =>
    obtain ⟨a, c, rfl, -⟩ := hv
    exact get_nil a c w
  | cons z r => exact get_cons v z r w hv (by simp at hbig; omega) _ (Lib.hid rfl)

end Go.Proofs.Ytpecbhimnpjkdaa
