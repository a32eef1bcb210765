/- RecordWrites, walked. -/
import Derived.Test.YtpecbhimnpjkdaaRcSpoil
import Derived.Test.YtpecbhimnpjkdaaRcChecks
import Derived.StillTailTactics
namespace Go.Proofs.Ytpecbhimnpjkdaa
open Go.RowKit Go.Sb

def xorL (q : UInt8) (ls : List UInt8) (j : Nat) : List UInt8 := (ls.take j).map (· ^^^ q) ++ ls.drop j

theorem xorL_length (q : UInt8) (ls : List UInt8) (j : Nat) : (xorL q ls j).length = ls.length := by
  unfold xorL
  simp
  omega

theorem xorL_get (q : UInt8) (ls : List UInt8) (j : Nat) (h : j < ls.length) : (xorL q ls j)[j]? = some ls[j] := by
  unfold xorL
  rw [List.getElem?_append_right (by simp; omega), List.length_map, List.length_take, List.getElem?_drop, Nat.min_eq_left (by omega), Nat.sub_self, Nat.add_zero, List.getElem?_eq_getElem h]

theorem xorL_step (q : UInt8) (ls : List UInt8) (j : Nat) (h : j < ls.length) : (xorL q ls j).set j (ls[j] ^^^ q) = xorL q ls (j + 1) := by
  unfold xorL
  rw [List.set_append_right _ _ (by simp; omega), List.length_map, List.length_take, Nat.min_eq_left (by omega), Nat.sub_self, List.take_succ_eq_append_getElem h, List.map_append, List.append_assoc]
  congr 1
  rw [List.drop_eq_getElem_cons h]
  rfl

theorem xorL_all (q : UInt8) (ls : List UInt8) : xorL q ls ls.length = ls.map (· ^^^ q) := by
  unfold xorL
  rw [List.take_length, List.drop_length, List.append_nil]

theorem bits_xor85 (c : UInt8) : bits .xor .u8 (c.toNat : Int) 85 = ((c ^^^ 85).toNat : Int) := by
  have h : ∀ c : BitVec 8, bits .xor .u8 ((UInt8.ofBitVec c).toNat : Int) 85 = ((UInt8.ofBitVec c ^^^ 85).toNat : Int) := by decide +kernel
  exact h c.toBitVec

def XorRel (q : UInt8) (ls : List UInt8) (g : Nat) (w0 : World) (i : Value) (wr : World) : Prop :=
  ∃ j : Nat, i = .int .i64 (j : Int) ∧ j ≤ ls.length ∧ wr.heap[g]? = some (.cells ((xorL q ls j).map byte).toArray 5 (0, 0)) ∧ Fr (fun x => x = g) w0 wr

theorem own_cut {w : World} {g n : Nat} {ls : List UInt8} (h : w.heap[g]? = some (.cells (ls.map byte).toArray 5 (0, 0))) (hn : n ≤ ls.length) (hm : ls.length ≤ maxLen) (c : Nat) (hc : c = ls.length) : RB w (.slice (some ⟨g, 0, none⟩) n c) (ls.take n) := by
  have hl : (ls.take n).length = n := by simp; omega
  refine ⟨_, c, by rw [hl], by omega, by omega, .inr ⟨g, 0, none, rfl, fun _ => rfl, fun i hi => ?_⟩⟩
  rw [Nat.zero_add]
  refine cell_is h i ?_
  have : i < ls.length := by omega
  simp [this]

theorem putX_len (k : Int) (ns : List Int) (tube : ByteArray) (xs : List UInt8) : (putX k ns tube xs).length ≤ 70000 := by
  unfold putX
  split
  · rename_i hc
    rw [putL_length']
    have := ofList_len k
    split
    · have := check_text hc (by assumption)
      omega
    · omega
  · simp

def recFacts (k : Int) (ns : List Int) (tube : ByteArray) (xs : List UInt8) : Prop :=
  (∀ (b' : Option Addr) (c' : Nat) (w' : World) (zs : List UInt8), zs.length = xs.length → RB w' (.slice b' xs.length c') zs → Calls Try.prog 13 #[.agg (recC k ns tube (.slice b' xs.length c'))] w' (TwoPost (putX k ns tube zs) (checkE k ns tube xs.length) w')) ∧
  (∀ (b' : Option Addr) (c' : Nat) (w' : World) (zs : List UInt8), zs.length = xs.length → RB w' (.slice b' xs.length c') zs → Calls Try.prog 22 #[.agg (recC k ns tube (.slice b' xs.length c'))] w' (TwoPost (putX k ns tube zs) (checkE k ns tube xs.length) w'))

theorem rec_facts (k : Int) (ns : List Int) (tube : ByteArray) (xs : List UInt8) (hl : ns.length = 16) : recFacts k ns tube xs := by
  refine ⟨fun b' c' w' zs hz h => ?_, fun b' c' w' zs hz h => ?_⟩
  · have := put_any k ns tube _ zs w' hl h
    rw [hz] at this
    exact this
  · have := refput_any k ns tube _ zs w' hl h
    rw [hz] at this
    exact this

set_option maxRecDepth 100000 in
set_option maxHeartbeats 8000000 in
theorem writes_any (k0 k1 : Int) (ns0 ns1 : List Int) (tube0 tube1 : ByteArray) (v0 v1 : Value) (xs ys : List UInt8) (w : World) (l0 : ns0.length = 16) (l1 : ns1.length = 16) (hv0 : RB w v0 xs) (hv1 : RB w v1 ys) (s0 : xs.length ≤ 140737488351232) (_s1 : ys.length ≤ 140737488351232) :
    Calls Try.prog 7 #[recV k0 ns0 tube0 v0, recV k1 ns1 tube1 v1] w fun e w' => e = .returned (.bool true) ∧ Fr (fun _ => False) w w' := by
  have h0' := hv0
  have h1' := hv1
  obtain ⟨a, c, rfl, -⟩ := h0'
  obtain ⟨a1, c1, rfl, -⟩ := h1'
  have HV := Lib.hid hv0
  have HV1 := Lib.hid hv1
  have HXN := Lib.hid s0
  have HR0 := Lib.hid (rec_facts k0 ns0 tube0 xs l0)
  have HR1 := Lib.hid (rec_facts k1 ns1 tube1 ys l1)
  have HP0 : Hid (∀ zs, (putX k0 ns0 tube0 zs).length ≤ 70000) := Lib.hid (fun zs => putX_len _ _ _ zs)
  have HP1 : Hid ((putX k1 ns1 tube1 ys).length ≤ 70000) := Lib.hid (putX_len _ _ _ _)
  have HB2 : Hid (((w.alloc (.cells (recC k0 ns0 tube0 (.slice a xs.length c)) 29)).alloc (.cells (recC k1 ns1 tube1 (.slice a1 ys.length c1)) 29)).heap[w.heap.size]? = some (.cells (recC k0 ns0 tube0 (.slice a xs.length c)) 29 (0, 0))) := Lib.hid ((heap_alloc_lt _ _ _ (by simp)).trans (heap_alloc_eq _ _))
  have HB3 : Hid (((w.alloc (.cells (recC k0 ns0 tube0 (.slice a xs.length c)) 29)).alloc (.cells (recC k1 ns1 tube1 (.slice a1 ys.length c1)) 29)).heap[w.heap.size + 1]? = some (.cells (recC k1 ns1 tube1 (.slice a1 ys.length c1)) 29 (0, 0))) := Lib.hid (by have h := heap_alloc_eq (w.alloc (.cells (recC k0 ns0 tube0 (.slice a xs.length c)) 29)) (.cells (recC k1 ns1 tube1 (.slice a1 ys.length c1)) 29); rw [World.size_alloc] at h; exact h)
  have HFC : Hid (Fr (fun _ => False) w ((w.alloc (.cells (recC k0 ns0 tube0 (.slice a xs.length c)) 29)).alloc (.cells (recC k1 ns1 tube1 (.slice a1 ys.length c1)) 29))) := Lib.hid (((Fr.refl _ w).alloc _).alloc _)
  have hi0 : (Try.prog.info? 29).map (·.size) = some (recC k0 ns0 tube0 (.slice a xs.length c)).size := info29s
  have hi1 : (Try.prog.info? 29).map (·.size) = some (recC k1 ns1 tube1 (.slice a1 ys.length c1)).size := info29s
  have hcell : Hid (∀ w' : World, w'.heap[w.heap.size]? = some (.cells (recC k0 ns0 tube0 (.slice a xs.length c)) 29 (0, 0)) → w'.cell? ⟨w.heap.size, 18, none⟩ = some (.slice a xs.length c)) := Lib.hid (fun w' h => cell_is h 18 rfl)
  clear hv0 hv1 s0 _s1 l0 l1
  unfold recV
  generalize hrc : recC k0 ns0 tube0 (.slice a xs.length c) = rc at *
  have HRC := Lib.hid hrc
  clear hrc
  generalize hrc1 : recC k1 ns1 tube1 (.slice a1 ys.length c1) = rc1 at *
  have HRC1 := Lib.hid hrc1
  clear hrc1
  go_enter Try.func7, Try.ntmps7
  go_wp2_with (fail)
  refine (shown_any _).mono ?_
  rintro e w1 ⟨rfl, hf⟩
  have HFC := Lib.hid (HFC.out.trans hf (fun _ _ h => h))
  have HB2 := Lib.hid (hf.get HB2.out id)
  have HB3 := Lib.hid (hf.get HB3.out id)
  have hlt1 : w.heap.size + 1 < w1.heap.size := lt_of_heap HB3.out
  have hB : Fr (fun _ => False) w1 (w1.alloc (.cells #[.slice none 0 0, .slice none 0 0, .int .i64 0] 49)) := (Fr.refl _ _).alloc _
  have HFC2 := Lib.hid (HFC.out.trans hB (fun _ _ h => h))
  have HB22 := Lib.hid (hB.get HB2.out id)
  have HB32 := Lib.hid (hB.get HB3.out id)
  have HBK : Hid ((w1.alloc (.cells #[.slice none 0 0, .slice none 0 0, .int .i64 0] 49)).heap[w1.heap.size]? = some (.cells #[.slice none 0 0, .slice none 0 0, .int .i64 0] 49 (0, 0))) := Lib.hid (heap_alloc_eq _ _)
  have c18 := hcell.out _ HB22.out
  clear hB hf
  go_wp2_with (fail)
  refine (lent_any _ xs _ (HV.out.fr HFC2.out) (by have := HXN.out; omega)).mono ?_
  rintro e w2 ⟨g, hgl, rfl, hgg, hf⟩
  have hgl2 : w1.heap.size + 1 ≤ g := by simpa using hgl
  have HFC := Lib.hid (HFC2.out.trans hf (fun _ _ h => h))
  have HB2 := Lib.hid (hf.get HB22.out id)
  have HB3 := Lib.hid (hf.get HB32.out id)
  have HBK := Lib.hid (hf.get HBK.out id)
  have HOW := Lib.hid hgg
  have c18 := hcell.out _ HB2.out
  have hlt2 : w.heap.size < w2.heap.size := lt_of_heap HB2.out
  have hlt3 : w.heap.size + 1 < w2.heap.size := lt_of_heap HB3.out
  have hltk : w1.heap.size < w2.heap.size := lt_of_heap HBK.out
  have hltg : g < w2.heap.size := lt_of_heap HOW.out
  have hgk : g ≠ w1.heap.size := fun he => by have h1 := HOW.out; rw [he, HBK.out] at h1; simp at h1
  clear hf hgg HFC2 HB22 HB32
  go_wp2_with (first
    | ((refine load_guard _ _ rfl ?_); refine wpList_load_row rfl 29 _ rfl w.heap.size rfl 29 _ (0, 0) _ HB2.out Try.underlying29 rfl hi0 ?_)
    | ((refine store_guard _ _ _ _ rfl ?_); refine wpList_store_agg _ rfl _ _ 29 rfl w2.heap.size 29 _ rc rfl rfl hi0 (heap_alloc_eq _ _) (by rw [← HRC.out]; rfl) (by rw [← HRC.out]; exact one19 _ _ _ _ _ _) ?_; intro w3 hw3 hf3; have hf : Fr (fun _ => False) w2 w3 := ((Fr.refl _ _).alloc _).trans hf3 (fun x hx h => by omega); have HFC := Lib.hid (HFC.out.trans hf (fun _ _ h => h)); have HB2 := Lib.hid (hf.get HB2.out id); have HB3 := Lib.hid (hf.get HB3.out id); have HBK := Lib.hid (hf.get HBK.out id); have HOW := Lib.hid (hf.get HOW.out id); have c18 := hcell.out _ HB2.out; rw [← HRC.out] at hw3; have HIN := Lib.hid hw3; have d18 : w3.cell? ⟨w2.heap.size, 18, none⟩ = some (.slice a xs.length c) := cell_is hw3 18 rfl; have z18 := frozen_of hw3 18; clear hf hf3 hw3)
    | ((refine load_guard _ _ rfl ?_); refine wpList_load_row rfl 29 _ rfl w2.heap.size rfl 29 (recC k0 ns0 tube0 (.slice (some ⟨g, 0, none⟩) xs.length (xs.length + 4))) (0, 0) _ (heap_setCell_eq 18 _ HIN.out) Try.underlying29 rfl info29s ?_))
  have hfs : Fr (fun x => x = w2.heap.size) w3 (w3.setCell ⟨w2.heap.size, 18, none⟩ (.slice (some ⟨g, 0, none⟩) xs.length (xs.length + 4))) := (Fr.refl (fun x => x = w2.heap.size) w3).setCell (p := ⟨w2.heap.size, 18, none⟩) (.inl rfl) _
  have HFC := Lib.hid (HFC.out.trans hfs (fun x hx h => by omega))
  have HB2 := Lib.hid (hfs.get HB2.out (by omega))
  have HB3 := Lib.hid (hfs.get HB3.out (by omega))
  have HBK := Lib.hid (hfs.get HBK.out (by omega))
  have HOW := Lib.hid (hfs.get HOW.out (by omega))
  have HIN : Hid ((w3.setCell ⟨w2.heap.size, 18, none⟩ (.slice (some ⟨g, 0, none⟩) xs.length (xs.length + 4))).heap[w2.heap.size]? = some (.cells (recC k0 ns0 tube0 (.slice (some ⟨g, 0, none⟩) xs.length (xs.length + 4))) 29 (0, 0))) := Lib.hid (heap_setCell_eq 18 _ HIN.out)
  have hS : w2.heap.size < w3.heap.size := by have := lt_of_heap HIN.out; simpa using this
  have hsz : (w3.setCell ⟨w2.heap.size, 18, none⟩ (.slice (some ⟨g, 0, none⟩) xs.length (xs.length + 4))).heap.size = w3.heap.size := by simp
  clear hfs d18 z18
  generalize (w3.setCell ⟨w2.heap.size, 18, none⟩ (.slice (some ⟨g, 0, none⟩) xs.length (xs.length + 4))) = w6 at *
  obtain ⟨S, hSe⟩ : ∃ S, w3.heap.size = S := ⟨_, rfl⟩
  rw [hSe] at hS hsz
  clear hSe
  have HH : Hid (Held 49 22 5 (fun x => x = w1.heap.size ∨ S ≤ x) w6 (fun _ => True) w1.heap.size (.slice none 0 0) (.slice none 0 0) [.int .i64 0] []) := Lib.hid ⟨⟨HBK.out, .inl rfl, Own.nil _ _ _ _, Own.nil _ _ _ _, fun k hk => by cases hk⟩, Pile.nil _ _ _ _⟩
  have hnF : ∀ x, x < S → x ≠ w1.heap.size → ¬ (x = w1.heap.size ∨ S ≤ x) := fun x h1 h2 h => h.elim h2 (fun h => by omega)
  refine (HR0.out.1 _ _ _ xs rfl (by have h := own_cut HOW.out (n := xs.length) (by rw [mark4_length xs 4 (by omega)]; omega) (by rw [mark4_length xs 4 (by omega)]; have := HXN.out; unfold maxLen; omega) (xs.length + 4) (by rw [mark4_length xs 4 (by omega)]); rw [mark4_take] at h; exact h)).mono ?_
  rintro e w7 ⟨va, rfl, hva, hf⟩
  have HFC := Lib.hid (HFC.out.trans hf (fun _ _ h => h))
  have HB2 := Lib.hid (hf.get HB2.out id)
  have HB3 := Lib.hid (hf.get HB3.out id)
  have HIN := Lib.hid (hf.get HIN.out id)
  have HOW := Lib.hid (hf.get HOW.out id)
  have HH := Lib.hid (HH.out.none hf)
  have hs7 := hf.size
  have HVA : Hid (OB 5 (fun x => S ≤ x ∧ x < w7.heap.size) w7 va (putX k0 ns0 tube0 xs)) := Lib.hid (hva.mono (fun x hx h => ⟨by omega, hx⟩))
  clear hf hva
  go_wp2_with (first
    | ((refine load_guard _ _ rfl ?_); refine wpList_load_row rfl 29 _ rfl (w.heap.size + 1) rfl 29 _ (0, 0) _ HB3.out Try.underlying29 rfl hi1 ?_)
    | ((refine load_guard _ _ rfl ?_); refine wpList_load_row rfl 29 _ rfl w.heap.size rfl 29 _ (0, 0) _ HB2.out Try.underlying29 rfl hi0 ?_)
    | ((refine load_guard _ _ rfl ?_); refine wpList_load_row rfl 29 _ rfl w2.heap.size rfl 29 _ (0, 0) _ HIN.out Try.underlying29 rfl info29s ?_))
  rw [← HRC1.out]
  refine (HR1.out.1 _ _ _ ys rfl (HV1.out.fr HFC.out)).mono ?_
  rintro e w8 ⟨vb, rfl, hvb, hf⟩
  have HFC := Lib.hid (HFC.out.trans hf (fun _ _ h => h))
  have HB2 := Lib.hid (hf.get HB2.out id)
  have HB3 := Lib.hid (hf.get HB3.out id)
  have HIN := Lib.hid (hf.get HIN.out id)
  have HOW := Lib.hid (hf.get HOW.out id)
  have HH := Lib.hid (HH.out.none hf)
  have hs8 := hf.size
  have HVB : Hid (OB 5 (fun x => w7.heap.size ≤ x ∧ x < w8.heap.size) w8 vb (putX k1 ns1 tube1 ys)) := Lib.hid (hvb.mono (fun x hx h => ⟨h, hx⟩))
  have HVA := Lib.hid (HVA.out.fr hf (fun _ _ _ h => h))
  clear hf hvb
  rw [HRC1.out]
  go_wp2_with (first
    | ((refine load_guard _ _ rfl ?_); refine wpList_load_row rfl 29 _ rfl (w.heap.size + 1) rfl 29 _ (0, 0) _ HB3.out Try.underlying29 rfl hi1 ?_)
    | ((refine load_guard _ _ rfl ?_); refine wpList_load_row rfl 29 _ rfl w.heap.size rfl 29 _ (0, 0) _ HB2.out Try.underlying29 rfl hi0 ?_)
    | ((refine load_guard _ _ rfl ?_); refine wpList_load_row rfl 29 _ rfl w2.heap.size rfl 29 _ (0, 0) _ HIN.out Try.underlying29 rfl info29s ?_))
  refine (HR0.out.1 _ _ _ xs rfl (by have h := own_cut HOW.out (n := xs.length) (by rw [mark4_length xs 4 (by omega)]; omega) (by rw [mark4_length xs 4 (by omega)]; have := HXN.out; unfold maxLen; omega) (xs.length + 4) (by rw [mark4_length xs 4 (by omega)]); rw [mark4_take] at h; exact h)).mono ?_
  rintro e w9 ⟨vc, rfl, hvc, hf⟩
  have HFC := Lib.hid (HFC.out.trans hf (fun _ _ h => h))
  have HB2 := Lib.hid (hf.get HB2.out id)
  have HB3 := Lib.hid (hf.get HB3.out id)
  have HIN := Lib.hid (hf.get HIN.out id)
  have HOW := Lib.hid (hf.get HOW.out id)
  have HH := Lib.hid (HH.out.none hf)
  have hs9 := hf.size
  have HVC : Hid (OB 5 (fun x => w8.heap.size ≤ x ∧ x < w9.heap.size) w9 vc (putX k0 ns0 tube0 xs)) := Lib.hid (hvc.mono (fun x hx h => ⟨h, hx⟩))
  have HVA := Lib.hid (HVA.out.fr hf (fun _ _ _ h => h))
  have HVB := Lib.hid (HVB.out.fr hf (fun _ _ _ h => h))
  clear hf hvc
  go_wp2_with (first
    | ((refine load_guard _ _ rfl ?_); refine wpList_load_row rfl 29 _ rfl (w.heap.size + 1) rfl 29 _ (0, 0) _ HB3.out Try.underlying29 rfl hi1 ?_)
    | ((refine load_guard _ _ rfl ?_); refine wpList_load_row rfl 29 _ rfl w.heap.size rfl 29 _ (0, 0) _ HB2.out Try.underlying29 rfl hi0 ?_)
    | ((refine load_guard _ _ rfl ?_); refine wpList_load_row rfl 29 _ rfl w2.heap.size rfl 29 _ (0, 0) _ HIN.out Try.underlying29 rfl info29s ?_))
  rw [← HRC.out]
  refine (HR0.out.2 _ _ _ xs rfl (HV.out.fr HFC.out)).mono ?_
  rintro e w10 ⟨vx, rfl, hvx, hf⟩
  have hs10 := hf.size
  have HFC := Lib.hid (HFC.out.trans hf (fun _ _ h => h))
  have HB2 := Lib.hid (hf.get HB2.out id)
  have HB3 := Lib.hid (hf.get HB3.out id)
  have HIN := Lib.hid (hf.get HIN.out id)
  have HOW := Lib.hid (hf.get HOW.out id)
  have HH := Lib.hid (HH.out.none hf)
  have c18 := hcell.out _ HB2.out
  have HVA := Lib.hid (HVA.out.fr hf (fun _ _ _ h => h))
  have HVB := Lib.hid (HVB.out.fr hf (fun _ _ _ h => h))
  have HVC := Lib.hid (HVC.out.fr hf (fun _ _ _ h => h))
  have HVX := Lib.hid (OB.rb hvx)
  clear hf hvx
  rw [HRC.out]
  go_wp2_with (first
    | ((refine load_guard _ _ rfl ?_); refine wpList_load_row rfl 29 _ rfl (w.heap.size + 1) rfl 29 _ (0, 0) _ HB3.out Try.underlying29 rfl hi1 ?_)
    | ((refine load_guard _ _ rfl ?_); refine wpList_load_row rfl 29 _ rfl w.heap.size rfl 29 _ (0, 0) _ HB2.out Try.underlying29 rfl hi0 ?_)
    | ((refine load_guard _ _ rfl ?_); refine wpList_load_row rfl 29 _ rfl w2.heap.size rfl 29 _ (0, 0) _ HIN.out Try.underlying29 rfl info29s ?_))
  rw [← HRC1.out]
  refine (HR1.out.2 _ _ _ ys rfl (HV1.out.fr HFC.out)).mono ?_
  rintro e w11 ⟨vy, rfl, hvy, hf⟩
  have hs11 := hf.size
  have HFC := Lib.hid (HFC.out.trans hf (fun _ _ h => h))
  have HB2 := Lib.hid (hf.get HB2.out id)
  have HB3 := Lib.hid (hf.get HB3.out id)
  have HIN := Lib.hid (hf.get HIN.out id)
  have HOW := Lib.hid (hf.get HOW.out id)
  have HH := Lib.hid (HH.out.none hf)
  have c18 := hcell.out _ HB2.out
  have HVA := Lib.hid (HVA.out.fr hf (fun _ _ _ h => h))
  have HVB := Lib.hid (HVB.out.fr hf (fun _ _ _ h => h))
  have HVC := Lib.hid (HVC.out.fr hf (fun _ _ _ h => h))
  have HVX := Lib.hid (HVX.out.fr hf)
  have HVY := Lib.hid (OB.rb hvy)
  clear hf hvy
  rw [HRC1.out]
  go_wp2_with (first
    | ((refine load_guard _ _ rfl ?_); refine wpList_load_row rfl 29 _ rfl (w.heap.size + 1) rfl 29 _ (0, 0) _ HB3.out Try.underlying29 rfl hi1 ?_)
    | ((refine load_guard _ _ rfl ?_); refine wpList_load_row rfl 29 _ rfl w.heap.size rfl 29 _ (0, 0) _ HB2.out Try.underlying29 rfl hi0 ?_)
    | ((refine load_guard _ _ rfl ?_); refine wpList_load_row rfl 29 _ rfl w2.heap.size rfl 29 _ (0, 0) _ HIN.out Try.underlying29 rfl info29s ?_))
  refine (still_any g _ xs _ HOW.out (HV.out.fr HFC.out) (by have := HXN.out; omega)).mono ?_
  rintro e w12 ⟨rfl, m, hm12⟩
  have hf := fr_drewN hm12
  have hs12 : w9.heap.size ≤ w12.heap.size := by have := hf.size; omega
  have HFC := Lib.hid (HFC.out.trans hf (fun _ _ h => h))
  have HB2 := Lib.hid (hf.get HB2.out id)
  have HB3 := Lib.hid (hf.get HB3.out id)
  have HIN := Lib.hid (hf.get HIN.out id)
  have HOW := Lib.hid (hf.get HOW.out id)
  have HH := Lib.hid (HH.out.none hf)
  have c18 := hcell.out _ HB2.out
  have HVA := Lib.hid (HVA.out.fr hf (fun _ _ _ h => h))
  have HVB := Lib.hid (HVB.out.fr hf (fun _ _ _ h => h))
  have HVC := Lib.hid (HVC.out.fr hf (fun _ _ _ h => h))
  have HVX := Lib.hid (HVX.out.fr hf)
  have HVY := Lib.hid (HVY.out.fr hf)
  have HRA := Lib.hid (OB.rb HVA.out)
  have HRB := Lib.hid (OB.rb HVB.out)
  have HRC9 := Lib.hid (OB.rb HVC.out)
  clear hf hm12
  go_wp2_with (first
    | (refine wpList_conv_w (by rfl) _ rfl va _ rfl HRA.out ?_)
    | (refine wpList_conv_w (by rfl) _ rfl vx _ rfl HVX.out ?_)
    | (refine wpList_conv_w (by rfl) _ rfl vb _ rfl HRB.out ?_)
    | (refine wpList_conv_w (by rfl) _ rfl vy _ rfl HVY.out ?_)
    | (refine wpList_conv_w (by rfl) _ rfl vc _ rfl HRC9.out ?_))
  have HVA : Hid (OB 5 (fun x => S ≤ x ∧ x < w7.heap.size) w12 va (putX k0 ns0 tube0 xs)) := Lib.hid HVA.out
  have HVB : Hid (OB 5 (fun x => w7.heap.size ≤ x ∧ x < w8.heap.size) w12 vb (putX k1 ns1 tube1 ys)) := Lib.hid HVB.out
  have HVC : Hid (OB 5 (fun x => w8.heap.size ≤ x ∧ x < w9.heap.size) w12 vc (putX k0 ns0 tube0 xs)) := Lib.hid HVC.out
  have hSw : S ≤ w12.heap.size := by omega
  have HSW := Lib.hid hSw
  have hle1 : (1 : Nat) ≤ 1099511627776 := by decide
  refine (keep_held w12 w1.heap.size _ _ 0 [] va (putX k0 ns0 tube0 xs) HH.out (Own.mono HVA.out (fun x _ h => .inr h.1)) (fun x hx => .inr (by omega)) (fun j e he => by simp at he) (by have := HP0.out xs; omega) (by simp)).mono ?_
  rintro e w13 ⟨vo3, vw3, ca, rfl, hh, hf, hcb, hfa⟩
  have HVB : Hid (OB 5 (fun x => w7.heap.size ≤ x ∧ x < w8.heap.size) w13 vb (putX k1 ns1 tube1 ys)) := Lib.hid (OB.of HVB.out (HH.out.rows.blk (E := 5) hfa (by decide) (by decide) (OB.rd HVB.out).2))
  have HVC : Hid (OB 5 (fun x => w8.heap.size ≤ x ∧ x < w9.heap.size) w13 vc (putX k0 ns0 tube0 xs)) := Lib.hid (OB.of HVC.out (HH.out.rows.blk (E := 5) hfa (by decide) (by decide) (OB.rd HVC.out).2))
  have HA1 : Hid (∀ k, va.ownBlock = some k → S ≤ k ∧ k < w7.heap.size) := Lib.hid (fun k hk => (Own.block HVA.out k hk).1)
  have HFC := Lib.hid (HFC.out.trans hf (fun x hx h => by rcases h with h | h <;> omega))
  have HB2 := Lib.hid (hf.get HB2.out (hnF _ (by omega) (by omega)))
  have HB3 := Lib.hid (hf.get HB3.out (hnF _ (by omega) (by omega)))
  have HIN := Lib.hid (hf.get HIN.out (hnF _ hS (by omega)))
  have HOW := Lib.hid (hf.get HOW.out (hnF _ (by omega) hgk))
  have c18 := hcell.out _ HB2.out
  have HH := Lib.hid hh
  have HCB := Lib.hid hcb
  have hs13 := hf.size
  clear hf hh hcb hfa
  go_wp2_with (fail)
  refine (keep_held w13 w1.heap.size _ _ 0 _ vb (putX k1 ns1 tube1 ys) HH.out (Own.mono HVB.out (fun x _ h => .inr (by omega))) (fun x hx => .inr (by omega)) (fun j e he => by
    have hj : j = 0 := by
      have := (List.getElem?_eq_some_iff.1 he).1
      simpa using this
    subst hj
    simp at he
    subst he
    refine ⟨fun k h1 h2 => ?_, fun k h1 h2 => ?_⟩
    · have := (Own.block HVB.out k h1).1; have := HA1.out k h2; omega
    · have := (Own.block HVB.out k h1).1; have := HCB.out k h2; omega) (by have := HP1.out; omega) (by simp)).mono ?_
  rintro e w14 ⟨vo4, vw4, cb, rfl, hh, hf, hcb, hfa⟩
  have HVC : Hid (OB 5 (fun x => w8.heap.size ≤ x ∧ x < w9.heap.size) w14 vc (putX k0 ns0 tube0 xs)) := Lib.hid (OB.of HVC.out (HH.out.rows.blk (E := 5) hfa (by decide) (by decide) (OB.rd HVC.out).2))
  have HB1 : Hid (∀ k, vb.ownBlock = some k → w7.heap.size ≤ k ∧ k < w8.heap.size) := Lib.hid (fun k hk => (Own.block HVB.out k hk).1)
  have HFC := Lib.hid (HFC.out.trans hf (fun x hx h => by rcases h with h | h <;> omega))
  have HB2 := Lib.hid (hf.get HB2.out (hnF _ (by omega) (by omega)))
  have HB3 := Lib.hid (hf.get HB3.out (hnF _ (by omega) (by omega)))
  have HIN := Lib.hid (hf.get HIN.out (hnF _ hS (by omega)))
  have HOW := Lib.hid (hf.get HOW.out (hnF _ (by omega) hgk))
  have c18 := hcell.out _ HB2.out
  have HH := Lib.hid hh
  have HCB2 := Lib.hid hcb
  have hs14 := hf.size
  clear hf hh hcb hfa
  go_wp2_with (fail)
  refine (keep_held w14 w1.heap.size _ _ 0 _ vc (putX k0 ns0 tube0 xs) HH.out (Own.mono HVC.out (fun x _ h => .inr (by omega))) (fun x hx => .inr (by omega)) (fun j e he => by
    have hj : j < 2 := by
      have := (List.getElem?_eq_some_iff.1 he).1
      simpa using this
    have hj2 : j = 0 ∨ j = 1 := by omega
    rcases hj2 with rfl | rfl
    · simp at he
      subst he
      refine ⟨fun k h1 h2 => ?_, fun k h1 h2 => ?_⟩
      · have := (Own.block HVC.out k h1).1; have := HA1.out k h2; omega
      · have := (Own.block HVC.out k h1).1; have := HCB.out k h2; omega
    · simp at he
      subst he
      refine ⟨fun k h1 h2 => ?_, fun k h1 h2 => ?_⟩
      · have := (Own.block HVC.out k h1).1; have := HB1.out k h2; omega
      · have := (Own.block HVC.out k h1).1; have := HCB2.out k h2; omega) (by have := HP0.out xs; omega) (by simp)).mono ?_
  rintro e w15 ⟨vo5, vw5, cc, rfl, hh, hf, hcb, hfa⟩
  have HFC := Lib.hid (HFC.out.trans hf (fun x hx h => by rcases h with h | h <;> omega))
  have HB2 := Lib.hid (hf.get HB2.out (hnF _ (by omega) (by omega)))
  have HB3 := Lib.hid (hf.get HB3.out (hnF _ (by omega) (by omega)))
  have HIN := Lib.hid (hf.get HIN.out (hnF _ hS (by omega)))
  have HOW := Lib.hid (hf.get HOW.out (hnF _ (by omega) hgk))
  have c18 := hcell.out _ HB2.out
  have HH := Lib.hid hh
  have hs15 := hf.size
  clear hf hh hcb hfa HVA HVB HVC HRA HRB HRC9 HVX HVY HA1 HB1 HCB HCB2
  have hln := mark4_length xs 4 (by omega)
  generalize hmk : mark4 xs 4 = ls at *
  have HMK := Lib.hid hmk
  have HLN := Lib.hid hln
  clear hmk
  go_wp2_with (fail)
  go_loopw [20] (fun i wr => XorRel 85 ls g w15 i wr) (fun i _ => ls.length - (intOf i).toNat)
  case atStart => exact ⟨0, rfl, by omega, by simpa [xorL] using HOW.out, Fr.refl _ _⟩
  case round =>
    obtain ⟨j, rfl, hj, hx, hfx⟩ := hrel
    have HX := Lib.hid hx
    have HFX := Lib.hid hfx
    clear hx hfx
    by_cases hlt : j < ls.length
    · have hget := xorL_get 85 ls j hlt
      have cj : wr.cell? ⟨g, j, none⟩ = some (.int .u8 ((ls[j]).toNat : Int)) := cell_is HX.out j (by rw [List.getElem?_toArray, List.getElem?_map, hget]; rfl)
      have zj : wr.frozen? ⟨g, j, none⟩ = false := frozen_of HX.out j
      have hxor := bits_xor85 ls[j]
      have HE : Hid ((wr.setCell ⟨g, j, none⟩ (.int .u8 ((ls[j] ^^^ 85 : UInt8).toNat : Int))).heap[g]? = some (.cells ((xorL 85 ls (j + 1)).map byte).toArray 5 (0, 0))) := Lib.hid (by
        rw [heap_setCell_eq j _ HX.out, ← xorL_step 85 ls j hlt, List.map_set]
        simp [byte])
      have HF5 : Hid (Fr (fun x => x = g) w15 (wr.setCell ⟨g, j, none⟩ (.int .u8 ((ls[j] ^^^ 85 : UInt8).toNat : Int)))) := Lib.hid (HFX.out.setCell (.inl rfl) _)
      have hjn : j < xs.length + 4 := by omega
      have hxn := HXN.out
      have HXO := Lib.hid hxor
      clear hxor hget
      generalize (ls[j] ^^^ 85 : UInt8).toNat = cx at *
      generalize (ls[j]).toNat = cj0 at *
      have hxor2 := HXO.out
      go_wp2_with (fail)
      go_roundw
      case rel => exact ⟨j + 1, by simp, by omega, HE.out, HF5.out⟩
      case measure => simp [intOf]; omega
    · obtain rfl : j = ls.length := by omega
      rw [xorL_all] at HX
      have hzl : (ls.map (· ^^^ (85 : UInt8))).length = xs.length + 4 := by rw [List.length_map]; exact HLN.out
      generalize hzs : ls.map (· ^^^ (85 : UInt8)) = zs at *
      have HZL := Lib.hid hzl
      clear hzs hzl
      have hf := HFX.out
      have hgF : ¬ (g = w1.heap.size ∨ S ≤ g) := hnF g (by omega) hgk
      have HFC := Lib.hid (HFC.out.trans hf (fun x hx h => by omega))
      have HB2 := Lib.hid (hf.get HB2.out (by omega))
      have HB3 := Lib.hid (hf.get HB3.out (by omega))
      have HIN := Lib.hid (hf.get HIN.out (by omega))
      have HH := Lib.hid (HH.out.fr hf (fun x hx h => by subst h; exact hgF hx))
      have HOW := HX
      have c18 := hcell.out _ HB2.out
      have hsx := hf.size
      have hltx : w.heap.size < wr.heap.size := lt_of_heap HB2.out
      clear hf HX HFX
      have hjw : ¬ ((ls.length : Int) < (xs.length : Int) + 4) := by have := HLN.out; omega
      have hxn := HXN.out
      go_wp2_with (first
        | ((refine load_guard _ _ rfl ?_); refine wpList_load_row rfl 29 _ rfl w.heap.size rfl 29 _ (0, 0) _ HB2.out Try.underlying29 rfl hi0 ?_)
        | ((refine store_guard _ _ _ _ rfl ?_); refine wpList_store_agg _ rfl _ _ 29 rfl wr.heap.size 29 _ rc rfl rfl hi0 (heap_alloc_eq _ _) (by rw [← HRC.out]; rfl) (by rw [← HRC.out]; exact one19 _ _ _ _ _ _) ?_; intro wy hwy hfy; have hf : Fr (fun _ => False) wr wy := ((Fr.refl _ _).alloc _).trans hfy (fun x hx h => by omega); have HFY := Lib.hid hf; rw [← HRC.out] at hwy; have HNW := Lib.hid hwy; have d18 : wy.cell? ⟨wr.heap.size, 18, none⟩ = some (.slice a xs.length c) := cell_is hwy 18 rfl; have z18 := frozen_of hwy 18; clear hf hfy hwy))
      have hfz : Fr (fun _ => False) wr (wy.setCell ⟨wr.heap.size, 18, none⟩ (.slice none 0 0)) := HFY.out.setCell (.inr (Nat.le_refl _)) _
      have HNZ : Hid ((wy.setCell ⟨wr.heap.size, 18, none⟩ (.slice none 0 0)).heap[wr.heap.size]? = some (.cells (recC k0 ns0 tube0 (.slice none 0 0)) 29 (0, 0))) := Lib.hid (heap_setCell_eq 18 _ HNW.out)
      have e18 : (wy.setCell ⟨wr.heap.size, 18, none⟩ (.slice none 0 0)).cell? ⟨wr.heap.size, 18, none⟩ = some (.slice none 0 0) := cell_is HNZ.out 18 rfl
      have c18z := hcell.out _ (hfz.get HB2.out id)
      have HFZ := Lib.hid hfz
      have HOZ := Lib.hid (hfz.get HOW.out id)
      clear hfz d18 z18 c18
      generalize (wy.setCell ⟨wr.heap.size, 18, none⟩ (.slice none 0 0)) = wz at *
      have hsl : ∀ w' : World, (Instr.sliceAt 22 (.slice (some ⟨g, 0, none⟩) (xs.length + 4) (xs.length + 4)) none (some (.int .i64 (xs.length : Int))) none).run Try.prog w' = .ok (.slice (some ⟨g, 0, none⟩) xs.length (xs.length + 4)) w' := fun w' => by
        have h := sub_h w' (some ⟨g, 0, none⟩) (xs.length + 4) (xs.length + 4) xs.length (by omega)
        rw [h, if_neg (by omega), Option.map_some, Addr.add_mid]
        rfl
      have hle3 : (xs.length : Int) ≤ (xs.length : Int) + 4 := by omega
      have hle4 : (0 : Int) ≤ (xs.length : Int) := by omega
      go_still_tail 9, (by kernel_rfl)
      change wpList _ _ _ _ _ wz.drew
      have HFD : Hid (Fr (fun _ => False) wz wz.drew) := Lib.hid (Fr.refl _ _).drew
      have HRZ : Hid (RB wz.drew (.slice (some ⟨g, 0, none⟩) xs.length (xs.length + 4)) (zs.take xs.length)) := Lib.hid (own_cut (HFD.out.get HOZ.out id) (by have := HZL.out; omega) (by have := HZL.out; unfold maxLen; omega) _ (by have := HZL.out; omega))
      have hzt : (zs.take xs.length).length = xs.length := by rw [List.length_take]; have := HZL.out; omega
      have HZT := Lib.hid hzt
      clear hzt
      generalize hztt : zs.take xs.length = zt at *
      have HZTT := Lib.hid hztt
      clear hztt
      go_wp2_with (first
        | (at_builtin; refine wpList_append_Own _ rfl _ _ 22 rfl 5 (.int .u8 0) 1 1 Try.underlying22 info5 rfl (by decide) (.slice none 0 0) 0 [] rfl (Own.nil 5 1 (fun x => wz.heap.size ≤ x) _) (.slice (some ⟨g, 0, none⟩) xs.length (xs.length + 4)) xs.length (zt.map byte) rfl (by have h := HRZ.out.src; rw [HZT.out] at h; exact h) (by unfold maxLen; omega) (by omega) ?_; intro v20 w20 hv20 hf20 hn20 _; have hf : Fr (fun _ => False) wz w20 := HFD.out.trans hf20 (fun x hx h => by cases h); have hg20 := hf.get HNZ.out id; have f18 : w20.cell? ⟨wr.heap.size, 18, none⟩ = some (.slice none 0 0) := cell_is hg20 18 rfl; have y18 := frozen_of hg20 18; have HG20 := Lib.hid hg20; have HF20 := Lib.hid hf; have HV20 : Hid (OB 5 (fun x => wz.heap.size ≤ x) w20 v20 zt) := Lib.hid (by have h := OB.app (xs := []) (by rw [HZT.out]; exact hv20) (fun _ h => h) (fun x hx => hx); exact h); clear hv20 hf20 hn20 hg20 hf; obtain ⟨a20, c20, rfl, -⟩ := OB.rb HV20.out; rw [HZT.out] at HV20 ⊢; have HFS : Hid (Fr (fun _ => False) wr (w20.setCell ⟨wr.heap.size, 18, none⟩ (.slice a20 xs.length c20))) := Lib.hid ((HFZ.out.trans HF20.out (fun _ _ h => h)).setCell (.inr (Nat.le_refl _)) _); have HINS := Lib.hid (HFS.out.get HIN.out id))
        | ((refine load_guard _ _ rfl ?_); refine wpList_load_row rfl 29 _ rfl w2.heap.size rfl 29 _ (0, 0) _ HINS.out Try.underlying29 rfl info29s ?_))
      have HFC := Lib.hid (HFC.out.trans HFS.out (fun _ _ h => h))
      have HOW := Lib.hid (HFS.out.get HOW.out id)
      have HH := Lib.hid (HH.out.none HFS.out)
      have HNEW : Hid ((w20.setCell ⟨wr.heap.size, 18, none⟩ (.slice a20 xs.length c20)).heap[wr.heap.size]? = some (.cells (recC k0 ns0 tube0 (.slice a20 xs.length c20)) 29 (0, 0))) := Lib.hid (heap_setCell_eq 18 _ HG20.out)
      have hzw : wr.heap.size < wz.heap.size := lt_of_heap HNZ.out
      have HR20 : Hid (RB (w20.setCell ⟨wr.heap.size, 18, none⟩ (.slice a20 xs.length c20)) (.slice a20 xs.length c20) zt) := Lib.hid ((OB.rb HV20.out).of (fun k hk hb => heap_setCell_ne _ _ _ _ (fun he => by have := (Own.block HV20.out k hb).1; simp at he; omega)))
      have hSS : S ≤ (w20.setCell ⟨wr.heap.size, 18, none⟩ (.slice a20 xs.length c20)).heap.size := by have := HFS.out.size; omega
      have HINS2 := HINS
      clear HINS HFS e18 c18z f18 y18 HV20 HG20
      generalize (w20.setCell ⟨wr.heap.size, 18, none⟩ (.slice a20 xs.length c20)) = wS at *
      refine (HR0.out.1 _ _ _ zt HZT.out (by have h := own_cut HOW.out (n := xs.length) (by have := HZL.out; omega) (by have := HZL.out; unfold maxLen; omega) (xs.length + 4) (by have := HZL.out; omega); rw [HZTT.out] at h; exact h)).mono ?_
      rintro e w21 ⟨vd, rfl, hvd, hf⟩
      have HFC := Lib.hid (HFC.out.trans hf (fun _ _ h => h))
      have HNEW := Lib.hid (hf.get HNEW.out id)
      have HR20 := Lib.hid (HR20.out.fr hf)
      have HH1 := Lib.hid (HH.out.none hf)
      have HVD : Hid (OB 5 (fun x => wS.heap.size ≤ x) w21 vd (putX k0 ns0 tube0 zt)) := Lib.hid hvd
      have hs21 := hf.size
      clear hf hvd
      go_wp2_with ((refine load_guard _ _ rfl ?_); refine wpList_load_row rfl 29 _ rfl wr.heap.size rfl 29 _ (0, 0) _ HNEW.out Try.underlying29 rfl info29s ?_)
      refine (HR0.out.2 _ _ _ zt HZT.out HR20.out).mono ?_
      rintro e w22 ⟨vz, rfl, hvz, hf⟩
      have HFC := Lib.hid (HFC.out.trans hf (fun _ _ h => h))
      have HH2 := Lib.hid (HH1.out.none hf)
      have HVD2 : Hid (OB 5 (fun x => wS.heap.size ≤ x) w22 vd (putX k0 ns0 tube0 zt)) := Lib.hid (Own.fr HVD.out hf (fun _ _ _ h => h))
      have HRD := Lib.hid (OB.rb HVD2.out)
      have HRZ2 := Lib.hid (OB.rb hvz)
      have hs22 := hf.size
      clear hf hvz
      go_wp2_with (first
        | (refine wpList_conv rfl _ rfl vd _ rfl HRD.out ?_)
        | (refine wpList_conv rfl _ rfl vz _ rfl HRZ2.out ?_))
      refine (keep_held w22 w1.heap.size _ _ 0 _ vd (putX k0 ns0 tube0 zt) HH2.out (Own.mono HVD2.out (fun x _ h => .inr (by omega))) (fun x hx => .inr (by omega)) (fun j e he => ⟨fun k h1 h2 => by have h3 := (Own.block HVD2.out k h1).1; have h4 := HH.out.pile.lt he (.inl h2); omega, fun k h1 h2 => by have h3 := (Own.block HVD2.out k h1).1; have h4 := HH.out.pile.lt he (.inr h2); omega⟩) (by have := HP0.out zt; omega) (by simp)).mono ?_
      rintro e w23 ⟨vo6, vw6, cd, rfl, hh, hf, -, -⟩
      have HFC := Lib.hid (HFC.out.trans hf (fun x hx h => by rcases h with h | h <;> omega))
      have hs23 := hf.size
      clear hf
      have HHL := Lib.hid hh
      clear hh
      go_wp2_with (fail)
      refine (spoil_any w23 w1.heap.size 70000 _ _ _ HHL.out (fun x hx => .inr (by omega)) (by omega) (fun j e he => by
        have hj : j < 4 := by
          have := (List.getElem?_eq_some_iff.1 he).1
          simpa using this
        have hj2 : j = 0 ∨ j = 1 ∨ j = 2 ∨ j = 3 := by omega
        rcases hj2 with rfl | rfl | rfl | rfl
        · simp at he; subst he; exact HP0.out xs
        · simp at he; subst he; exact HP1.out
        · simp at he; subst he; exact HP0.out xs
        · simp at he; subst he; exact HP0.out zt) (by simp)).mono ?_
      rintro e w24 ⟨rfl, hf⟩
      have HFC := Lib.hid (HFC.out.trans hf (fun x hx h => by rcases h with h | h <;> omega))
      clear hf
      go_wp2_with (fail)
      go_ret
      exact ⟨rfl, HFC.out⟩

end Go.Proofs.Ytpecbhimnpjkdaa
