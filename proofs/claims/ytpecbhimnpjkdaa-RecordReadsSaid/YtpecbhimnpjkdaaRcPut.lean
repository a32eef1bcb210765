/- record.Put, walked. -/
import Derived.Test.YtpecbhimnpjkdaaRcCheck
import Derived.Test.YtpecbhimnpjkdaaRcLow
import Derived.Lib.AppendStr
namespace Go.Proofs.Ytpecbhimnpjkdaa
open Go.RowKit Go.Sb

def numsL (ns : List Int) (l : List Nat) : List UInt8 := (l.map fun i => le (at0 ns i).toNat 8).flatten

theorem numsL_take {ns : List Int} {l : List Nat} {j : Nat} (hj : j < l.length) : numsL ns (l.take (j + 1)) = numsL ns (l.take j) ++ le (at0 ns l[j]).toNat 8 := by
  unfold numsL
  rw [List.take_succ_eq_append_getElem hj, List.map_append, List.flatten_append]
  simp

theorem numsL_length (ns : List Int) (l : List Nat) : (numsL ns l).length = 8 * l.length := by
  induction l with
  | nil => rfl
  | cons a l ih =>
    unfold numsL at ih ⊢
    rw [List.map_cons, List.flatten_cons, List.length_append, ih, le_length, List.length_cons]
    omega

def kindB (k : Int) : UInt8 := UInt8.ofNat k.toNat
def textL (tube : ByteArray) (xs : List UInt8) : List UInt8 := [UInt8.ofNat tube.size] ++ (tube.data.toList ++ xs)
def putL (k : Int) (ns : List Int) (tube : ByteArray) (xs : List UInt8) : List UInt8 :=
  kindB k :: (numsL ns (ofList k) ++ (if k = 2 then textL tube xs else []))

def PutPost (xs : List UInt8) (w : World) (e : Ending) (w' : World) : Prop :=
  ∃ v, e = .returned (.tuple #[v, .int .i64 0]) ∧ OB 5 (fun x => w.heap.size ≤ x) w' v xs ∧ Fr (fun _ => False) w w'

theorem kind_byte {k : Int} (hk : Kind k) : Value.int .u8 (k % 256) = byte (kindB k) := by
  rcases hk with rfl | rfl | rfl | rfl <;> rfl

theorem strCells_bytes (s : ByteArray) : Lib.strCells s = s.data.toList.map byte := rfl

set_option maxRecDepth 100000 in
set_option maxHeartbeats 2000000 in
theorem put_no (k : Int) (ns : List Int) (tube : ByteArray) (bp : Option Addr) (bn bc : Nat) (w : World) (r : Int) (hl : ns.length = 16) (hr : (r == 0) = false) (hc : Hid (checkE k ns tube bn = r)) :
    Calls Try.prog 13 #[recV k ns tube (.slice bp bn bc)] w fun e w' => e = .returned (.tuple #[.slice none 0 0, .int .i64 r]) ∧ Fr (fun _ => False) w w' := by
  have hg := heap_alloc_eq w (.cells (recC k ns tube (.slice bp bn bc)) 29)
  have hi29 : (Try.prog.info? 29).map (·.size) = some (recC k ns tube (.slice bp bn bc)).size := info29s
  have HCH : Hid (∀ w' : World, Calls Try.prog 14 #[.agg (recC k ns tube (.slice bp bn bc))] w' fun e w'' => e = .returned (.int .i64 r) ∧ Fr (fun _ => False) w' w'') := Lib.hid (fun w' => by
    have h := check_any k ns tube bp bn bc w' hl
    rw [hc.out] at h
    exact h)
  have HG := Lib.hid hg
  have HF0 := Lib.hid ((Fr.refl (fun _ => False) w).alloc (.cells (recC k ns tube (.slice bp bn bc)) 29))
  clear hg hc
  unfold recV
  generalize recC k ns tube (.slice bp bn bc) = rc at *
  go_enter Try.func13, Try.ntmps13
  go_wp2_with ((refine load_guard _ _ rfl ?_); refine wpList_load_row rfl 29 _ rfl w.heap.size rfl 29 _ (0, 0) _ HG.out Try.underlying29 rfl hi29 ?_)
  refine (HCH.out _).mono ?_
  rintro e w2 ⟨rfl, hf2⟩
  have HF2 := Lib.hid (HF0.out.trans hf2 (fun _ _ h => h))
  clear hf2
  go_wp2_with (fail)
  go_ret2
  exact ⟨rfl, HF2.out⟩

def PutF (b6 : Nat) (w6 : World) : Nat → Prop := fun x => x = b6 ∨ w6.heap.size ≤ x
def PutRel (h : UInt8) (ns : List Int) (l : List Nat) (b6 : Nat) (w6 : World) (v i : Value) (wr : World) : Prop :=
  ∃ j : Nat, i = .int .i64 (j : Int) ∧ j ≤ l.length ∧ OB 5 (PutF b6 w6) wr v (h :: numsL ns (l.take j)) ∧ Fr (fun x => x = b6) w6 wr

set_option maxRecDepth 100000 in
set_option maxHeartbeats 4000000 in
theorem put_yes (k : Int) (ns : List Int) (tube : ByteArray) (bp : Option Addr) (bn bc : Nat) (xs : List UInt8) (w : World) (hl : ns.length = 16) (hk : Kind k) (hc : Hid (checkE k ns tube bn = 0))
    (hpos : Hid (∀ i ∈ ofList k, 0 ≤ at0 ns i ∧ at0 ns i ≤ 9223372036854775807)) (hb : Hid (RB w (.slice bp bn bc) xs)) (ht : Hid (k = 2 → tube.size ≤ 200 ∧ xs.length ≤ 65535)) :
    Calls Try.prog 13 #[recV k ns tube (.slice bp bn bc)] w (PutPost (putL k ns tube xs) w) := by
  have hg := heap_alloc_eq w (.cells (recC k ns tube (.slice bp bn bc)) 29)
  have hi29 : (Try.prog.info? 29).map (·.size) = some (recC k ns tube (.slice bp bn bc)).size := info29s
  have HCH : Hid (∀ w' : World, Calls Try.prog 14 #[.agg (recC k ns tube (.slice bp bn bc))] w' fun e w'' => e = .returned (.int .i64 0) ∧ Fr (fun _ => False) w' w'') := Lib.hid (fun w' => by
    have h := check_any k ns tube bp bn bc w' hl
    rw [hc.out] at h
    exact h)
  have HNUM : Hid (∀ w' : World, Calls Try.prog 29 #[.agg (recC k ns tube (.slice bp bn bc))] w' fun e w'' => e = .returned (.agg (ns.map iv).toArray) ∧ Fr (fun _ => False) w' w'') := Lib.hid (fun w' => numbersOf_any k ns tube bp bn bc w' hl)
  have hcell : Hid (∀ w' : World, w'.heap[w.heap.size]? = some (.cells (recC k ns tube (.slice bp bn bc)) 29 (0, 0)) → w'.cell? ⟨w.heap.size, 0, none⟩ = some (.int .i64 k) ∧ w'.cell? ⟨w.heap.size, 17, none⟩ = some (.string tube) ∧ w'.cell? ⟨w.heap.size, 18, none⟩ = some (.slice bp bn bc)) :=
    Lib.hid (fun w' h => ⟨cell_is h 0 rfl, cell_is h 17 rfl, cell_is h 18 rfl⟩)
  have HG := Lib.hid hg
  have HF0 := Lib.hid ((Fr.refl (fun _ => False) w).alloc (.cells (recC k ns tube (.slice bp bn bc)) 29))
  have HKB := Lib.hid (kind_byte hk)
  clear hg hc
  unfold recV
  generalize recC k ns tube (.slice bp bn bc) = rc at *
  go_enter Try.func13, Try.ntmps13
  go_wp2_with ((refine load_guard _ _ rfl ?_); refine wpList_load_row rfl 29 _ rfl w.heap.size rfl 29 _ (0, 0) _ HG.out Try.underlying29 rfl hi29 ?_)
  refine (HCH.out _).mono ?_
  rintro e w2 ⟨rfl, hf2⟩
  have HF2 := Lib.hid (HF0.out.trans hf2 (fun _ _ h => h))
  have HG2 := Lib.hid (hf2.get HG.out id)
  clear hf2 HG HF0
  go_wp2_with ((refine load_guard _ _ rfl ?_); refine wpList_load_row rfl 29 _ rfl w.heap.size rfl 29 _ (0, 0) _ HG2.out Try.underlying29 rfl hi29 ?_)
  refine (HNUM.out _).mono ?_
  rintro e w3 ⟨rfl, hf3⟩
  have HF3 := Lib.hid (HF2.out.trans hf3 (fun _ _ h => h))
  have HG3 := Lib.hid (hf3.get HG2.out id)
  clear hf3 HG2 HF2
  have hi := info54o hl
  have hs16 : (ns.map iv).toArray.size = 16 := by simp [hl]
  have hbw : w.heap.size < w3.heap.size := lt_of_heap HG3.out
  have HTRI : Hid (∀ w' : World, Fr (fun _ => False) w3 w' → w'.heap[w.heap.size]? = some (.cells rc 29 (0, 0))) := Lib.hid (fun w' h => h.get HG3.out id)
  go_wp2_with (first | ((refine store_guard _ _ _ _ rfl ?_); refine wpList_store_agg _ rfl _ _ 54 rfl w3.heap.size 54 _ (ns.map iv).toArray rfl rfl hi (heap_alloc_eq _ _) hs16.symm (iv_one ns) ?_; intro w4 hw4 hf4; have hf34 : Fr (fun _ => False) w3 w4 := (((Fr.refl (fun _ => False) w3).alloc _).trans hf4 (fun j hj he => by omega)); have HF34 := Lib.hid hf34; have HW4 := Lib.hid hw4; have HG4 := Lib.hid (HTRI.out w4 hf34); obtain ⟨c0, c17, c18⟩ := hcell.out w4 HG4.out; have hb4 : w.heap.size < w4.heap.size := lt_of_heap HG4.out; clear hf4 hw4 hf34))
  refine (of_yes k _ hk).mono ?_
  rintro e w5 ⟨rfl, rfl⟩
  have HROW := Lib.hid (ofList_row hk (w4.alloc (.cells #[.int .u8 (k % 256)] 5)))
  have hf46 : Fr (fun _ => False) w4 ((w4.alloc (.cells #[.int .u8 (k % 256)] 5)).alloc (.cells ((ofList k).map natV).toArray 3)) := ((Fr.refl _ w4).alloc _).alloc _
  have hown : OB 5 (PutF w4.heap.size ((w4.alloc (.cells #[.int .u8 (k % 256)] 5)).alloc (.cells ((ofList k).map natV).toArray 3))) ((w4.alloc (.cells #[.int .u8 (k % 256)] 5)).alloc (.cells ((ofList k).map natV).toArray 3)) (.slice (some ⟨w4.heap.size, 0, none⟩) 1 1) [kindB k] := by
    refine ⟨rfl, .inr ⟨w4.heap.size, 1, _, rfl, .inl rfl, (heap_alloc_lt _ _ _ (by simp)).trans (heap_alloc_eq _ _), Nat.le_refl _, by decide, rfl, ?_⟩⟩
    rw [HKB.out]
    rfl
  have HOWN := Lib.hid hown
  have HF6 := Lib.hid (HF3.out.trans (HF34.out.trans hf46 (fun _ _ h => h)) (fun _ _ h => h))
  have HW6 := Lib.hid (hf46.get HW4.out id)
  have HG6 := Lib.hid (hf46.get HG4.out id)
  have hne1 : w3.heap.size ≠ w4.heap.size := by have := lt_of_heap HW4.out; omega
  have hne2 : w.heap.size ≠ w4.heap.size := by have := lt_of_heap HG4.out; omega
  have hne3 : (w4.alloc (.cells #[.int .u8 (k % 256)] 5)).heap.size ≠ w4.heap.size := by simp
  have hle6 : w.heap.size ≤ w4.heap.size := by omega
  have hlt6 : w4.heap.size < ((w4.alloc (.cells #[.int .u8 (k % 256)] 5)).alloc (.cells ((ofList k).map natV).toArray 3)).heap.size := by simp; omega
  clear hf46 c0 c17 c18 HG4 HW4 hown HTRI HG3
  generalize ((w4.alloc (.cells #[.int .u8 (k % 256)] 5)).alloc (.cells ((ofList k).map natV).toArray 3)) = w6 at *
  generalize (w4.alloc (.cells #[.int .u8 (k % 256)] 5)).heap.size = b7 at *
  generalize w4.heap.size = b6 at *
  generalize hqb5 : w3.heap.size = b5 at *
  have HL16 : Hid ((ofList k).length ≤ 16 ∧ ∀ x ∈ ofList k, x < 16) := Lib.hid (by rcases hk with rfl | rfl | rfl | rfl <;> decide)
  have HPUT : Hid (putL k ns tube xs = kindB k :: (numsL ns (ofList k) ++ (if k = 2 then textL tube xs else []))) := Lib.hid rfl
  generalize hlist : ofList k = l at *
  have HLIST := Lib.hid hlist
  clear hlist
  go_wp2_with (fail)
  go_loopw [6, 8, 24] (fun v _ i wr => ∃ vv, vv = v ∧ PutRel (kindB k) ns l b6 w6 vv i wr) (fun _ _ i _ => l.length - (intOf i).toNat)
  case atStart => exact ⟨_, rfl, 0, rfl, by omega, HOWN.out, Fr.refl _ _⟩
  case round =>
    obtain ⟨vv, rfl, j, rfl, hj, hv, hf⟩ := hrel
    have HV := Lib.hid hv
    have HF := Lib.hid hf
    clear hv hf
    by_cases hlt : j < l.length
    · have hlk : l[j] < 16 := HL16.out.2 _ (List.getElem_mem hlt)
      obtain ⟨hp0, hp1⟩ := hpos.out _ (List.getElem_mem hlt)
      obtain ⟨n, hn⟩ : ∃ n : Nat, at0 ns l[j] = (n : Int) := ⟨(at0 ns l[j]).toNat, by omega⟩
      have hn1 : n ≤ 9223372036854775807 := by omega
      obtain ⟨bl, hbl, hbl2, _⟩ := HROW.out
      obtain rfl : b7 = bl := by cases hbl; rfl
      have c1 : wr.cell? ⟨b7, j, none⟩ = some (.int .i64 (l[j] : Int)) := cell_is (HF.out.get hbl2 hne3) j (by simp [natV, hlt])
      have c2 : wr.cell? ⟨b5, l[j], none⟩ = some (.int .i64 (n : Int)) := by rw [← hn]; exact cell_is (HF.out.get HW6.out hne1) l[j] (by unfold at0; simp [iv, hl, hlk])
      have hlow := low_any n wr hn1
      have HTK : Hid (kindB k :: numsL ns (l.take (j + 1)) = (kindB k :: numsL ns (l.take j)) ++ le n 8) := Lib.hid (by rw [numsL_take hlt, hn]; rfl)
      have HLN : Hid ((kindB k :: numsL ns (l.take j)).length ≤ 129) := Lib.hid (by have := HL16.out.1; rw [List.length_cons, numsL_length, List.length_take]; omega)
      have HL16j : Hid (j + 1 ≤ l.length) := Lib.hid hlt
      clear hbl hbl2 hp0 hp1 hn
      have h16 := HL16.out.1
      generalize l[j] = at' at *
      go_wp2_with (first | (refine hlow.mono ?_; rintro e w9 ⟨v9, rfl, hv9, hf9⟩; have HV9 := Lib.hid hv9; have HF9 := Lib.hid hf9; clear hv9 hf9) | (at_builtin; refine wpList_append_Own _ rfl _ _ 22 rfl 5 (.int .u8 0) 1 1 Try.underlying22 info5 rfl (by decide) vv _ _ rfl (HV.out.fr HF9.out (fun _ _ _ h => h)) v9 _ _ rfl HV9.out.rb.src (by have := HLN.out; rw [le_length]; unfold maxLen; omega) (by have := HLN.out; rw [le_length]; omega) ?_; intro v3 w3 hv3 hf3 hn3 _))
      have hf6 : Fr (fun x => x = b6) w6 w3 := by
        refine (HF.out.trans HF9.out (fun _ _ h => h.elim)).trans hf3 (fun x hx he => ?_)
        rcases (HV.out.block x he).1 with h | h
        · exact h
        · omega
      have HF6' := Lib.hid hf6
      have HV3 := Lib.hid hv3
      clear hf3 hn3 hf6 hv3 hlow c1 c2
      go_roundw
      case rel =>
        refine ⟨_, rfl, j + 1, rfl, HL16j.out, ?_, HF6'.out⟩
        rw [HTK.out]
        exact OB.app HV3.out (fun _ h => h) (fun x hx => .inr (Nat.le_trans (Nat.le_trans HF.out.size HF9.out.size) hx))
      case measure => simp [intOf]; omega
    · have hje : j = l.length := by omega
      subst hje
      rw [List.take_length] at HV
      cases h2 : (k == 2)
      · have hk2 : k ≠ 2 := by simpa using h2
        obtain ⟨c0, c17, c18⟩ := hcell.out wr (HF.out.get HG6.out hne2)
        have HP : Hid (putL k ns tube xs = kindB k :: numsL ns l) := Lib.hid (by rw [HPUT.out, if_neg hk2, List.append_nil])
        go_wp2_with (fail)
        go_ret2
        refine ⟨_, rfl, ?_, HF6.out.trans HF.out (fun x hx h => by omega)⟩
        rw [HP.out]
        exact HV.out.mono (fun x _ h => h.elim (fun h => by omega) (fun h => Nat.le_trans HF6.out.size h))
      · have hk2 : k = 2 := by simpa using h2
        obtain ⟨ht1, ht2⟩ := ht.out hk2
        have hbx := hb.out
        have hbn : bn = xs.length := by
          obtain ⟨a, c, h, _⟩ := hbx
          cases h
          rfl
        obtain ⟨c0, c17, c18⟩ := hcell.out wr (HF.out.get HG6.out hne2)
        have HFw := Lib.hid (HF6.out.trans HF.out (fun x hx h => by omega) : Fr (fun _ => False) w wr)
        have HB := Lib.hid (hbx.fr HFw.out)
        have HX := Lib.hid (show xs.length ≤ 65535 from ht2)
        have HT := Lib.hid (show tube.size ≤ 200 from ht1)
        have HN0 : Hid ((kindB k :: numsL ns l).length ≤ 129) := Lib.hid (by have := HL16.out.1; rw [List.length_cons, numsL_length]; omega)
        have HP : Hid (putL k ns tube xs = (((kindB k :: numsL ns l) ++ [UInt8.ofNat tube.size]) ++ tube.data.toList) ++ xs) := Lib.hid (by rw [HPUT.out, if_pos hk2, textL]; simp)
        have HV0 : Hid (OB 5 (fun x => w.heap.size + 1 ≤ x) wr vv (kindB k :: numsL ns l)) := Lib.hid (HV.out.mono (fun x _ h => h.elim (fun h => by omega) (fun h => by have := HF6.out.size; omega)))
        have HTR : Hid (∀ w' : World, Fr (fun x => w.heap.size + 1 ≤ x) wr w' → w'.cell? ⟨w.heap.size, 17, none⟩ = some (.string tube) ∧ w'.cell? ⟨w.heap.size, 18, none⟩ = some (.slice bp bn bc)) :=
          Lib.hid (fun w' h => (hcell.out w' (h.get (HF.out.get HG6.out hne2) (fun h => by omega))).2)
        have hbw9 : w.heap.size < wr.heap.size := by have := HF.out.size; omega
        have HBW := Lib.hid hbw9
        obtain ⟨i5, hi5, hz5, hs5, hb5⟩ := info_parts info5
        have HT1 : Hid ([Value.int .u8 ((tube.size : Int) % 256)] = [UInt8.ofNat tube.size].map byte) := Lib.hid (by rw [byte_of]; rfl)
        clear ht1 ht2 HV HF HOWN HROW hbn
        go_wp2_with (first
          | (at_builtin; refine wpList_append_Own _ rfl _ _ 22 rfl 5 (.int .u8 0) 1 1 Try.underlying22 info5 rfl (by decide) vv _ _ rfl (HV0.out.alloc _) (.slice (some ⟨wr.heap.size, 0, none⟩) 1 1) 1 _ rfl (src_byte wr (.int .u8 ((tube.size : Int) % 256)) rfl 5) (by have := HN0.out; unfold maxLen; omega) (by have := HN0.out; omega) ?_; intro v3 w3 hv3 hf3 hn3 _; have h3 : Fr (fun x => w.heap.size + 1 ≤ x) wr w3 := (((Fr.refl _ wr).alloc _).trans hf3 (fun j hj he => (HV0.out.block j he).1)); obtain ⟨d17, d18⟩ := HTR.out w3 h3; have HF3' := Lib.hid h3; have HV3 : Hid (OB 5 (fun x => w.heap.size + 1 ≤ x) w3 v3 ((kindB k :: numsL ns l) ++ [UInt8.ofNat tube.size])) := Lib.hid (OB.app (ys := [UInt8.ofNat tube.size]) (by rw [HT1.out] at hv3; exact hv3) (fun _ h => h) (fun x hx => by have := HBW.out; simp at hx; omega)); clear h3 hv3 hf3 hn3 c17 c18)
          | (at_builtin; refine Lib.wpList_append_own_string _ rfl _ _ 22 9 rfl (w.heap.size + 1) 5 i5 Try.underlying22 Try.underlying9 hi5 hz5 hs5 hb5 v3 _ _ rfl HV3.out tube rfl (by have := HN0.out; have := HT.out; rw [List.length_append]; simp only [List.length_singleton]; unfold maxLen; omega) (by have := HN0.out; have := HT.out; rw [List.length_append]; simp only [List.length_singleton]; omega) (by have := HF3'.out.size; have := HBW.out; omega) ?_; intro v4 w4 hv4 hg4 hn4; have h4 : Fr (fun x => w.heap.size + 1 ≤ x) wr w4 := HF3'.out.grown hg4 (fun j hj => .inl (HV3.out.block j hj).1); obtain ⟨e17, e18⟩ := HTR.out w4 h4; have HF4 := Lib.hid (HFw.out.trans h4 (fun x hx h => by omega)); have HV4 : Hid (OB 5 (fun x => w.heap.size + 1 ≤ x) w4 v4 (((kindB k :: numsL ns l) ++ [UInt8.ofNat tube.size]) ++ tube.data.toList)) := Lib.hid (by unfold OB; rw [List.length_append (bs := tube.data.toList), List.map_append, ← strCells_bytes]; exact hv4); clear hv4 hg4 hn4 h4 d17 d18)
          | (at_builtin; refine wpList_append_Own _ rfl _ _ 22 rfl 5 (.int .u8 0) 1 1 Try.underlying22 info5 rfl (by decide) v4 _ _ rfl HV4.out (.slice bp bn bc) _ _ rfl (hb.out.fr HF4.out).src (by have := HN0.out; have := HT.out; have := HX.out; simp only [List.length_append, List.length_singleton, Array.length_toList]; unfold maxLen; show _ + tube.size + _ ≤ _; omega) (by have := HN0.out; have := HT.out; have := HX.out; simp only [List.length_append, List.length_singleton, Array.length_toList]; show ((_ + tube.size + _) + (_ + tube.size + _) / 4 + 192) * 1 ≤ _; omega) ?_; intro v5 w5 hv5 hf5 hn5 _; have HF5 := Lib.hid (HF4.out.trans hf5 (fun j hj he => by have := (HV4.out.block j he).1; omega)); have HV5 : Hid (OB 5 (fun x => w.heap.size ≤ x) w5 v5 ((((kindB k :: numsL ns l) ++ [UInt8.ofNat tube.size]) ++ tube.data.toList) ++ xs)) := Lib.hid (OB.app hv5 (fun x h => by omega) (fun x hx => Nat.le_trans HF4.out.size hx)); clear hv5 hf5 hn5))
        go_ret2
        refine ⟨_, rfl, ?_, HF5.out⟩
        rw [← hk2, HP.out]
        exact HV5.out

end Go.Proofs.Ytpecbhimnpjkdaa
