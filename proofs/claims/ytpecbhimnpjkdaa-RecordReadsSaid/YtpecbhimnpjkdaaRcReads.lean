/- RecordReads, walked. (Printed by rcreads.py.) -/
import Derived.Test.YtpecbhimnpjkdaaRcRefGetA
import Derived.Test.YtpecbhimnpjkdaaRcWrites
namespace Go.Proofs.Ytpecbhimnpjkdaa
open Go.RowKit Go.Sb

theorem bits_xor1 (c : UInt8) : bits .xor .u8 (c.toNat : Int) 1 = ((c ^^^ 1).toNat : Int) := by
  have h : ∀ c : BitVec 8, bits .xor .u8 ((UInt8.ofBitVec c).toNat : Int) 1 = ((UInt8.ofBitVec c ^^^ 1).toNat : Int) := by decide +kernel
  exact h c.toBitVec

theorem finG_len (k : Int) (ns : List Int) (tube : ByteArray) (b : List UInt8) : (finG k ns tube b).body.length ≤ b.length := by
  unfold finG
  split
  · exact Nat.le_refl _
  · simp [noGot]

theorem getG_len (xs : List UInt8) : (getG xs).body.length ≤ xs.length := by
  have h0 : noGot.body.length ≤ xs.length := by simp [noGot]
  unfold getG
  split
  · exact h0
  · rename_i c r
    unfold kindG
    split
    · exact h0
    · split
      · exact h0
      · split
        · exact h0
        · unfold restG
          split
          · unfold textG
            split
            · exact h0
            · rename_i z u he
              split
              · exact h0
              · refine Nat.le_trans (finG_len _ _ _ _) ?_
                have h1 := congrArg List.length he
                simp only [List.length_drop, List.length_cons] at h1 ⊢
                omega
          · split
            · exact Nat.le_trans (finG_len _ _ _ _) (by simp)
            · exact h0

structure IsRec (r : Array Value) (g : Got) (v : Value) : Prop where
  len : r.size = 19
  size : (Try.prog.info? 29).map (·.size) = some r.size
  one : ∀ v ∈ r.toList, v.oneCell' = true
  c18 : ∀ (w : World) (b : Nat), w.heap[b]? = some (.cells r 29 (0, 0)) → w.cell? ⟨b, 18, none⟩ = some v
  agg : Value.agg r = recV g.k g.ns g.tube v

def BoxPost (g : Got) (w : World) (e : Ending) (w' : World) : Prop :=
  ∃ r v, e = .returned (.tuple #[.agg r, .int .i64 g.err]) ∧ IsRec r g v ∧ OB 5 (fun x => w.heap.size ≤ x) w' v g.body ∧ Fr (fun _ => False) w w'

theorem box_of {g : Got} {w w' : World} {e : Ending} (h : GetPost g w e w') : BoxPost g w e w' := by
  obtain ⟨v, rfl, hv, hf⟩ := h
  obtain ⟨a, c, rfl, -⟩ := OB.rb hv
  exact ⟨recC g.k g.ns g.tube (.slice a g.body.length c), _, rfl, ⟨rfl, info29s, one19 _ _ _ _ _ _, fun w b h => cell_is h 18 rfl, rfl⟩, hv, hf⟩

theorem get_box (v : Value) (xs : List UInt8) (w : World) (hv : RB w v xs) (hbig : xs.length ≤ 140737488360000) : Calls Try.prog 11 #[v] w (BoxPost (getG xs) w) :=
  (get_any v xs w hv hbig).mono fun _ _ h => box_of h
theorem refget_box (v : Value) (xs : List UInt8) (w : World) (hv : RB w v xs) (hbig : xs.length ≤ 140737488360000) : Calls Try.prog 25 #[v] w (BoxPost (getG xs) w) :=
  (refget_any v xs w hv hbig).mono fun _ _ h => box_of h
theorem same_box {r1 r2 : Array Value} {g : Got} {v1 v2 : Value} {w : World} (i1 : IsRec r1 g v1) (i2 : IsRec r2 g v2) (h1 : RB w v1 g.body) (h2 : RB w v2 g.body) :
    Calls Try.prog 12 #[.agg r1, .agg r2] w fun e w' => e = .returned (.bool true) ∧ Fr (fun _ => False) w w' := by
  rw [i1.agg, i2.agg]
  exact same_eq _ _ _ _ _ _ w h1 h2

theorem held_typ {F : Nat → Prop} {w w' : World} {h : Nat} {vo vw : Value} {rest : List Value} {L : List Ent} (hr : HRows 49 22 F w h vo vw rest L) (hf : Fr (HRows.at h vo vw) w w') {k : Nat} {cs : Array Value} {fr : Nat × Nat}
    (hc : w.heap[k]? = some (.cells cs 29 fr)) : w'.heap[k]? = some (.cells cs 29 fr) := by
  refine (hf.block k (lt_of_heap hc) ?_).trans hc
  have ne : ∀ v n xs, Own 22 1 F w v n xs → v.ownBlock ≠ some k := fun v n xs hv hk => by
    rcases hv.2 with ⟨rfl, _⟩ | ⟨g, cap, cur, rfl, _, hgg, _⟩
    · cases hk
    · simp only [Value.ownBlock, Option.some.injEq] at hk
      subst hk
      rw [hc] at hgg
      simp at hgg
  rintro (rfl | h1 | h1)
  · have := hr.head
    rw [hc] at this
    simp at this
  · exact ne _ _ _ hr.outs h1
  · exact ne _ _ _ hr.wants h1

set_option maxRecDepth 100000 in
set_option maxHeartbeats 8000000 in
theorem reads_any (v0 v1 : Value) (xs ys : List UInt8) (w : World) (hv0 : RB w v0 xs) (hv1 : RB w v1 ys) (s0 : xs.length ≤ 140737488351232) (s1 : ys.length ≤ 140737488351232) :
    Calls Try.prog 8 #[v0, v1] w fun e w' => e = .returned (.bool true) ∧ Fr (fun _ => False) w w' := by
  have h0' := hv0
  obtain ⟨a, c, rfl, -⟩ := h0'
  have HV := Lib.hid hv0
  have HV1 := Lib.hid hv1
  have HXN := Lib.hid s0
  have HC0 : Hid (∀ (v : Value) (w' : World), RB w' v xs → Calls Try.prog 11 #[v] w' (BoxPost (getG xs) w')) := Lib.hid (fun v w' h => get_box v xs w' h (by omega))
  have HD0 : Hid (∀ (v : Value) (w' : World), RB w' v xs → Calls Try.prog 25 #[v] w' (BoxPost (getG xs) w')) := Lib.hid (fun v w' h => refget_box v xs w' h (by omega))
  have HC1 : Hid (∀ (v : Value) (w' : World), RB w' v ys → Calls Try.prog 11 #[v] w' (BoxPost (getG ys) w')) := Lib.hid (fun v w' h => get_box v ys w' h (by omega))
  have HD1 : Hid (∀ (v : Value) (w' : World), RB w' v ys → Calls Try.prog 25 #[v] w' (BoxPost (getG ys) w')) := Lib.hid (fun v w' h => refget_box v ys w' h (by omega))
  have HL0 : Hid ((getG xs).body.length ≤ 140737488351232) := Lib.hid (Nat.le_trans (getG_len xs) s0)
  have HL1 : Hid ((getG ys).body.length ≤ 140737488351232) := Lib.hid (Nat.le_trans (getG_len ys) s1)
  have HFC : Hid (Fr (fun _ => False) w w) := Lib.hid (Fr.refl _ _)
  generalize getG xs = g0 at *
  generalize getG ys = g1 at *
  clear hv0 hv1 s0 s1
  go_enter Try.func8, Try.ntmps8
  go_wp2_with (fail)
  refine (shown_any _).mono ?_
  rintro e w1 ⟨rfl, hf⟩
  have HFC := Lib.hid (HFC.out.trans hf (fun _ _ h => h))
  have hB : Fr (fun _ => False) w1 (w1.alloc (.cells #[.slice none 0 0, .slice none 0 0, .int .i64 0] 49)) := (Fr.refl _ _).alloc _
  have HFC2 := Lib.hid (HFC.out.trans hB (fun _ _ h => h))
  have HBK : Hid ((w1.alloc (.cells #[.slice none 0 0, .slice none 0 0, .int .i64 0] 49)).heap[w1.heap.size]? = some (.cells #[.slice none 0 0, .slice none 0 0, .int .i64 0] 49 (0, 0))) := Lib.hid (heap_alloc_eq _ _)
  have hw1 : w.heap.size ≤ w1.heap.size := HFC.out.size
  clear hB hf
  go_wp2_with (fail)
  refine (lent_any _ xs _ (HV.out.fr HFC2.out) (by have := HXN.out; omega)).mono ?_
  rintro e w2 ⟨g, hgl, rfl, hgg, hf⟩
  have hgl2 : w1.heap.size + 1 ≤ g := by simpa using hgl
  have HFC := Lib.hid (HFC2.out.trans hf (fun _ _ h => h))
  have HBK := Lib.hid (hf.get HBK.out id)
  have HOW := Lib.hid hgg
  have hltk : w1.heap.size < w2.heap.size := lt_of_heap HBK.out
  have hltg : g < w2.heap.size := lt_of_heap HOW.out
  have hgk : g ≠ w1.heap.size := fun he => by have h1 := HOW.out; rw [he, HBK.out] at h1; simp at h1
  clear hf hgg HFC2 hgl
  obtain ⟨S, hSe⟩ : ∃ S, w2.heap.size = S := ⟨_, rfl⟩
  have hS2 : S ≤ w2.heap.size := by omega
  rw [hSe] at hltk hltg
  clear hSe
  have HH : Hid (Held 49 22 5 (fun x => x = w1.heap.size ∨ S ≤ x) w2 (fun _ => True) w1.heap.size (.slice none 0 0) (.slice none 0 0) [.int .i64 0] []) := Lib.hid ⟨⟨HBK.out, .inl rfl, Own.nil _ _ _ _, Own.nil _ _ _ _, fun k hk => by cases hk⟩, Pile.nil _ _ _ _⟩
  have hnF : ∀ x, x < S → x ≠ w1.heap.size → ¬ (x = w1.heap.size ∨ S ≤ x) := fun x h1 h2 h => h.elim h2 (fun h => by omega)
  have hle1 : (xs.length : Int) ≤ (xs.length : Int) + 4 := by omega
  have hle2 : (0 : Int) ≤ (xs.length : Int) := by omega
  go_wp2_with (fail)
  refine (HC0.out _ _ (by have h := own_cut HOW.out (n := xs.length) (by rw [mark4_length xs 4 (by omega)]; omega) (by rw [mark4_length xs 4 (by omega)]; have := HXN.out; unfold maxLen; omega) (xs.length + 4) (by rw [mark4_length xs 4 (by omega)]); rw [mark4_take] at h; exact h)).mono ?_
  rintro e wa8 ⟨r8, v8, rfl, hi, hv, hf⟩
  have HFC := Lib.hid (HFC.out.trans hf (fun _ _ h => h))
  have HOW := Lib.hid (hf.get HOW.out id)
  have HH := Lib.hid (HH.out.none hf)
  have HI8 := Lib.hid hi
  have HV8 : Hid (OB 5 (fun x => w2.heap.size ≤ x ∧ x < wa8.heap.size) wa8 v8 g0.body) := Lib.hid (hv.mono (fun x hx h => ⟨h, hx⟩))
  have hs8 := hf.size
  clear hf hv hi
  go_wp2_with (first
    | ((refine store_guard _ _ _ _ rfl ?_); refine wpList_store_agg _ rfl _ _ 29 rfl wa8.heap.size 29 _ r8 rfl rfl HI8.out.size (heap_alloc_eq _ _) (by rw [HI8.out.len]; rfl) HI8.out.one ?_; intro wb8 hwr hfr; have hf : Fr (fun _ => False) wa8 wb8 := ((Fr.refl _ _).alloc _).trans hfr (fun x hx h => by omega); have HFC := Lib.hid (HFC.out.trans hf (fun _ _ h => h)); have HOW := Lib.hid (hf.get HOW.out id); have HH := Lib.hid (HH.out.none hf); have HV8 := Lib.hid (HV8.out.fr hf (fun _ _ _ h => h)); have HB8 := Lib.hid hwr; have ht8 : wa8.heap.size < wb8.heap.size := lt_of_heap hwr; clear hf hfr hwr))
  refine (HC1.out _ _ (HV1.out.fr HFC.out)).mono ?_
  rintro e wa10 ⟨r10, v10, rfl, hi, hv, hf⟩
  have HFC := Lib.hid (HFC.out.trans hf (fun _ _ h => h))
  have HOW := Lib.hid (hf.get HOW.out id)
  have HH := Lib.hid (HH.out.none hf)
  have HV8 := Lib.hid (HV8.out.fr hf (fun _ _ _ h => h))
  have HB8 := Lib.hid (hf.get HB8.out id)
  have HI10 := Lib.hid hi
  have HV10 : Hid (OB 5 (fun x => wb8.heap.size ≤ x ∧ x < wa10.heap.size) wa10 v10 g1.body) := Lib.hid (hv.mono (fun x hx h => ⟨h, hx⟩))
  have hs10 := hf.size
  clear hf hv hi
  go_wp2_with (first
    | ((refine store_guard _ _ _ _ rfl ?_); refine wpList_store_agg _ rfl _ _ 29 rfl wa10.heap.size 29 _ r10 rfl rfl HI10.out.size (heap_alloc_eq _ _) (by rw [HI10.out.len]; rfl) HI10.out.one ?_; intro wb10 hwr hfr; have hf : Fr (fun _ => False) wa10 wb10 := ((Fr.refl _ _).alloc _).trans hfr (fun x hx h => by omega); have HFC := Lib.hid (HFC.out.trans hf (fun _ _ h => h)); have HOW := Lib.hid (hf.get HOW.out id); have HH := Lib.hid (HH.out.none hf); have HV8 := Lib.hid (HV8.out.fr hf (fun _ _ _ h => h)); have HB8 := Lib.hid (hf.get HB8.out id); have HV10 := Lib.hid (HV10.out.fr hf (fun _ _ _ h => h)); have HB10 := Lib.hid hwr; have ht10 : wa10.heap.size < wb10.heap.size := lt_of_heap hwr; clear hf hfr hwr))
  refine (HC0.out _ _ (by have h := own_cut HOW.out (n := xs.length) (by rw [mark4_length xs 4 (by omega)]; omega) (by rw [mark4_length xs 4 (by omega)]; have := HXN.out; unfold maxLen; omega) (xs.length + 4) (by rw [mark4_length xs 4 (by omega)]); rw [mark4_take] at h; exact h)).mono ?_
  rintro e wa12 ⟨r12, v12, rfl, hi, hv, hf⟩
  have HFC := Lib.hid (HFC.out.trans hf (fun _ _ h => h))
  have HOW := Lib.hid (hf.get HOW.out id)
  have HH := Lib.hid (HH.out.none hf)
  have HV8 := Lib.hid (HV8.out.fr hf (fun _ _ _ h => h))
  have HB8 := Lib.hid (hf.get HB8.out id)
  have HV10 := Lib.hid (HV10.out.fr hf (fun _ _ _ h => h))
  have HB10 := Lib.hid (hf.get HB10.out id)
  have HI12 := Lib.hid hi
  have HV12 : Hid (OB 5 (fun x => wb10.heap.size ≤ x ∧ x < wa12.heap.size) wa12 v12 g0.body) := Lib.hid (hv.mono (fun x hx h => ⟨h, hx⟩))
  have hs12 := hf.size
  clear hf hv hi
  go_wp2_with (first
    | ((refine store_guard _ _ _ _ rfl ?_); refine wpList_store_agg _ rfl _ _ 29 rfl wa12.heap.size 29 _ r12 rfl rfl HI12.out.size (heap_alloc_eq _ _) (by rw [HI12.out.len]; rfl) HI12.out.one ?_; intro wb12 hwr hfr; have hf : Fr (fun _ => False) wa12 wb12 := ((Fr.refl _ _).alloc _).trans hfr (fun x hx h => by omega); have HFC := Lib.hid (HFC.out.trans hf (fun _ _ h => h)); have HOW := Lib.hid (hf.get HOW.out id); have HH := Lib.hid (HH.out.none hf); have HV8 := Lib.hid (HV8.out.fr hf (fun _ _ _ h => h)); have HB8 := Lib.hid (hf.get HB8.out id); have HV10 := Lib.hid (HV10.out.fr hf (fun _ _ _ h => h)); have HB10 := Lib.hid (hf.get HB10.out id); have HV12 := Lib.hid (HV12.out.fr hf (fun _ _ _ h => h)); have HB12 := Lib.hid hwr; have ht12 : wa12.heap.size < wb12.heap.size := lt_of_heap hwr; clear hf hfr hwr))
  refine (HD0.out _ _ (HV.out.fr HFC.out)).mono ?_
  rintro e wa14 ⟨r14, v14, rfl, hi, hv, hf⟩
  have HFC := Lib.hid (HFC.out.trans hf (fun _ _ h => h))
  have HOW := Lib.hid (hf.get HOW.out id)
  have HH := Lib.hid (HH.out.none hf)
  have HV8 := Lib.hid (HV8.out.fr hf (fun _ _ _ h => h))
  have HB8 := Lib.hid (hf.get HB8.out id)
  have HV10 := Lib.hid (HV10.out.fr hf (fun _ _ _ h => h))
  have HB10 := Lib.hid (hf.get HB10.out id)
  have HV12 := Lib.hid (HV12.out.fr hf (fun _ _ _ h => h))
  have HB12 := Lib.hid (hf.get HB12.out id)
  have HI14 := Lib.hid hi
  have HV14 : Hid (OB 5 (fun x => wb12.heap.size ≤ x ∧ x < wa14.heap.size) wa14 v14 g0.body) := Lib.hid (hv.mono (fun x hx h => ⟨h, hx⟩))
  have hs14 := hf.size
  clear hf hv hi
  go_wp2_with (first
    | ((refine store_guard _ _ _ _ rfl ?_); refine wpList_store_agg _ rfl _ _ 29 rfl wa14.heap.size 29 _ r14 rfl rfl HI14.out.size (heap_alloc_eq _ _) (by rw [HI14.out.len]; rfl) HI14.out.one ?_; intro wb14 hwr hfr; have hf : Fr (fun _ => False) wa14 wb14 := ((Fr.refl _ _).alloc _).trans hfr (fun x hx h => by omega); have HFC := Lib.hid (HFC.out.trans hf (fun _ _ h => h)); have HOW := Lib.hid (hf.get HOW.out id); have HH := Lib.hid (HH.out.none hf); have HV8 := Lib.hid (HV8.out.fr hf (fun _ _ _ h => h)); have HB8 := Lib.hid (hf.get HB8.out id); have HV10 := Lib.hid (HV10.out.fr hf (fun _ _ _ h => h)); have HB10 := Lib.hid (hf.get HB10.out id); have HV12 := Lib.hid (HV12.out.fr hf (fun _ _ _ h => h)); have HB12 := Lib.hid (hf.get HB12.out id); have HV14 := Lib.hid (HV14.out.fr hf (fun _ _ _ h => h)); have HB14 := Lib.hid hwr; have ht14 : wa14.heap.size < wb14.heap.size := lt_of_heap hwr; clear hf hfr hwr))
  refine (HD1.out _ _ (HV1.out.fr HFC.out)).mono ?_
  rintro e wa16 ⟨r16, v16, rfl, hi, hv, hf⟩
  have HFC := Lib.hid (HFC.out.trans hf (fun _ _ h => h))
  have HOW := Lib.hid (hf.get HOW.out id)
  have HH := Lib.hid (HH.out.none hf)
  have HV8 := Lib.hid (HV8.out.fr hf (fun _ _ _ h => h))
  have HB8 := Lib.hid (hf.get HB8.out id)
  have HV10 := Lib.hid (HV10.out.fr hf (fun _ _ _ h => h))
  have HB10 := Lib.hid (hf.get HB10.out id)
  have HV12 := Lib.hid (HV12.out.fr hf (fun _ _ _ h => h))
  have HB12 := Lib.hid (hf.get HB12.out id)
  have HV14 := Lib.hid (HV14.out.fr hf (fun _ _ _ h => h))
  have HB14 := Lib.hid (hf.get HB14.out id)
  have HI16 := Lib.hid hi
  have HV16 : Hid (OB 5 (fun x => wb14.heap.size ≤ x ∧ x < wa16.heap.size) wa16 v16 g1.body) := Lib.hid (hv.mono (fun x hx h => ⟨h, hx⟩))
  have hs16 := hf.size
  clear hf hv hi
  go_wp2_with (first
    | ((refine store_guard _ _ _ _ rfl ?_); refine wpList_store_agg _ rfl _ _ 29 rfl wa16.heap.size 29 _ r16 rfl rfl HI16.out.size (heap_alloc_eq _ _) (by rw [HI16.out.len]; rfl) HI16.out.one ?_; intro wb16 hwr hfr; have hf : Fr (fun _ => False) wa16 wb16 := ((Fr.refl _ _).alloc _).trans hfr (fun x hx h => by omega); have HFC := Lib.hid (HFC.out.trans hf (fun _ _ h => h)); have HOW := Lib.hid (hf.get HOW.out id); have HH := Lib.hid (HH.out.none hf); have HV8 := Lib.hid (HV8.out.fr hf (fun _ _ _ h => h)); have HB8 := Lib.hid (hf.get HB8.out id); have HV10 := Lib.hid (HV10.out.fr hf (fun _ _ _ h => h)); have HB10 := Lib.hid (hf.get HB10.out id); have HV12 := Lib.hid (HV12.out.fr hf (fun _ _ _ h => h)); have HB12 := Lib.hid (hf.get HB12.out id); have HV14 := Lib.hid (HV14.out.fr hf (fun _ _ _ h => h)); have HB14 := Lib.hid (hf.get HB14.out id); have HV16 := Lib.hid (HV16.out.fr hf (fun _ _ _ h => h)); have HB16 := Lib.hid hwr; have ht16 : wa16.heap.size < wb16.heap.size := lt_of_heap hwr; clear hf hfr hwr))
  refine (still_any g _ xs _ HOW.out (HV.out.fr HFC.out) (by have := HXN.out; omega)).mono ?_
  rintro e w12 ⟨rfl, m, hm12⟩
  have hf := fr_drewN hm12
  have hs12 := hf.size
  have HFC := Lib.hid (HFC.out.trans hf (fun _ _ h => h))
  have HOW := Lib.hid (hf.get HOW.out id)
  have HH := Lib.hid (HH.out.none hf)
  have HV8 := Lib.hid (HV8.out.fr hf (fun _ _ _ h => h))
  have HB8 := Lib.hid (hf.get HB8.out id)
  have HV10 := Lib.hid (HV10.out.fr hf (fun _ _ _ h => h))
  have HB10 := Lib.hid (hf.get HB10.out id)
  have HV12 := Lib.hid (HV12.out.fr hf (fun _ _ _ h => h))
  have HB12 := Lib.hid (hf.get HB12.out id)
  have HV14 := Lib.hid (HV14.out.fr hf (fun _ _ _ h => h))
  have HB14 := Lib.hid (hf.get HB14.out id)
  have HV16 := Lib.hid (HV16.out.fr hf (fun _ _ _ h => h))
  have HB16 := Lib.hid (hf.get HB16.out id)
  clear hf hm12
  go_wp2_with (first
    | ((refine load_guard _ _ rfl ?_); refine wpList_load_row rfl 29 _ rfl wa8.heap.size rfl 29 _ (0, 0) _ HB8.out Try.underlying29 rfl HI8.out.size ?_)
    | ((refine load_guard _ _ rfl ?_); refine wpList_load_row rfl 29 _ rfl wa14.heap.size rfl 29 _ (0, 0) _ HB14.out Try.underlying29 rfl HI14.out.size ?_))
  refine (same_box HI8.out HI14.out (OB.rb HV8.out) (OB.rb HV14.out)).mono ?_
  rintro e ws0 ⟨rfl, hf⟩
  have hz0 := hf.size
  have HFC := Lib.hid (HFC.out.trans hf (fun _ _ h => h))
  have HOW := Lib.hid (hf.get HOW.out id)
  have HH := Lib.hid (HH.out.none hf)
  have HV8 := Lib.hid (HV8.out.fr hf (fun _ _ _ h => h))
  have HB8 := Lib.hid (hf.get HB8.out id)
  have HV10 := Lib.hid (HV10.out.fr hf (fun _ _ _ h => h))
  have HB10 := Lib.hid (hf.get HB10.out id)
  have HV12 := Lib.hid (HV12.out.fr hf (fun _ _ _ h => h))
  have HB12 := Lib.hid (hf.get HB12.out id)
  have HV14 := Lib.hid (HV14.out.fr hf (fun _ _ _ h => h))
  have HB14 := Lib.hid (hf.get HB14.out id)
  have HV16 := Lib.hid (HV16.out.fr hf (fun _ _ _ h => h))
  have HB16 := Lib.hid (hf.get HB16.out id)
  clear hf
  go_wp2_with (first
    | ((refine load_guard _ _ rfl ?_); refine wpList_load_row rfl 29 _ rfl wa10.heap.size rfl 29 _ (0, 0) _ HB10.out Try.underlying29 rfl HI10.out.size ?_)
    | ((refine load_guard _ _ rfl ?_); refine wpList_load_row rfl 29 _ rfl wa16.heap.size rfl 29 _ (0, 0) _ HB16.out Try.underlying29 rfl HI16.out.size ?_))
  refine (same_box HI10.out HI16.out (OB.rb HV10.out) (OB.rb HV16.out)).mono ?_
  rintro e ws1 ⟨rfl, hf⟩
  have hz1 := hf.size
  have HFC := Lib.hid (HFC.out.trans hf (fun _ _ h => h))
  have HOW := Lib.hid (hf.get HOW.out id)
  have HH := Lib.hid (HH.out.none hf)
  have HV8 := Lib.hid (HV8.out.fr hf (fun _ _ _ h => h))
  have HB8 := Lib.hid (hf.get HB8.out id)
  have HV10 := Lib.hid (HV10.out.fr hf (fun _ _ _ h => h))
  have HB10 := Lib.hid (hf.get HB10.out id)
  have HV12 := Lib.hid (HV12.out.fr hf (fun _ _ _ h => h))
  have HB12 := Lib.hid (hf.get HB12.out id)
  have HV14 := Lib.hid (HV14.out.fr hf (fun _ _ _ h => h))
  have HB14 := Lib.hid (hf.get HB14.out id)
  have HV16 := Lib.hid (HV16.out.fr hf (fun _ _ _ h => h))
  have HB16 := Lib.hid (hf.get HB16.out id)
  clear hf
  go_wp2_with (first
    | ((refine load_guard _ _ rfl ?_); refine wpList_load_row rfl 29 _ rfl wa12.heap.size rfl 29 _ (0, 0) _ HB12.out Try.underlying29 rfl HI12.out.size ?_)
    | ((refine load_guard _ _ rfl ?_); refine wpList_load_row rfl 29 _ rfl wa14.heap.size rfl 29 _ (0, 0) _ HB14.out Try.underlying29 rfl HI14.out.size ?_))
  refine (same_box HI12.out HI14.out (OB.rb HV12.out) (OB.rb HV14.out)).mono ?_
  rintro e ws2 ⟨rfl, hf⟩
  have hz2 := hf.size
  have HFC := Lib.hid (HFC.out.trans hf (fun _ _ h => h))
  have HOW := Lib.hid (hf.get HOW.out id)
  have HH := Lib.hid (HH.out.none hf)
  have HV8 := Lib.hid (HV8.out.fr hf (fun _ _ _ h => h))
  have HB8 := Lib.hid (hf.get HB8.out id)
  have HV10 := Lib.hid (HV10.out.fr hf (fun _ _ _ h => h))
  have HB10 := Lib.hid (hf.get HB10.out id)
  have HV12 := Lib.hid (HV12.out.fr hf (fun _ _ _ h => h))
  have HB12 := Lib.hid (hf.get HB12.out id)
  have HV14 := Lib.hid (HV14.out.fr hf (fun _ _ _ h => h))
  have HB14 := Lib.hid (hf.get HB14.out id)
  have HV16 := Lib.hid (HV16.out.fr hf (fun _ _ _ h => h))
  have HB16 := Lib.hid (hf.get HB16.out id)
  clear hf
  have c8 := HI8.out.c18 _ _ HB8.out
  go_wp2_with (fail)
  refine (keep_held ws2 w1.heap.size _ _ 0 [] v8 g0.body HH.out (Own.mono HV8.out (fun x _ h => .inr (by omega))) (fun x hx => .inr (by omega)) (fun j e he => by simp at he) (by have := HL0.out; omega) (by simp)).mono ?_
  rintro e wk0 ⟨vo3, vw3, ca, rfl, hh, hf, hcb, hfa⟩
  have HB10 := Lib.hid (held_typ HH.out.rows hfa HB10.out)
  have HB12 := Lib.hid (held_typ HH.out.rows hfa HB12.out)
  have HV10 := Lib.hid (OB.of HV10.out (HH.out.rows.blk (E := 5) hfa (by decide) (by decide) (OB.rd HV10.out).2))
  have HV12 := Lib.hid (OB.of HV12.out (HH.out.rows.blk (E := 5) hfa (by decide) (by decide) (OB.rd HV12.out).2))
  have HA1 : Hid (∀ k, v8.ownBlock = some k → w2.heap.size ≤ k ∧ k < wa8.heap.size) := Lib.hid (fun k hk => (Own.block HV8.out k hk).1)
  have HFC := Lib.hid (HFC.out.trans hf (fun x hx h => by rcases h with h | h <;> omega))
  have HOW := Lib.hid (hf.get HOW.out (hnF _ hltg hgk))
  have HH := Lib.hid hh
  have HCB := Lib.hid hcb
  have hk0 := hf.size
  clear hf hh hcb hfa HB8 HV8 c8
  have c10 := HI10.out.c18 _ _ HB10.out
  go_wp2_with (fail)
  refine (keep_held wk0 w1.heap.size _ _ 0 _ v10 g1.body HH.out (Own.mono HV10.out (fun x _ h => .inr (by omega))) (fun x hx => .inr (by omega)) (fun j e he => by
    have hj : j = 0 := by
      have := (List.getElem?_eq_some_iff.1 he).1
      simpa using this
    subst hj
    simp at he
    subst he
    refine ⟨fun k h1 h2 => ?_, fun k h1 h2 => ?_⟩
    · have := (Own.block HV10.out k h1).1; have := HA1.out k h2; omega
    · have := (Own.block HV10.out k h1).1; have := HCB.out k h2; omega) (by have := HL1.out; omega) (by simp)).mono ?_
  rintro e wk1 ⟨vo4, vw4, cb, rfl, hh, hf, hcb, hfa⟩
  have HB12 := Lib.hid (held_typ HH.out.rows hfa HB12.out)
  have HV12 := Lib.hid (OB.of HV12.out (HH.out.rows.blk (E := 5) hfa (by decide) (by decide) (OB.rd HV12.out).2))
  have HB1 : Hid (∀ k, v10.ownBlock = some k → wb8.heap.size ≤ k ∧ k < wa10.heap.size) := Lib.hid (fun k hk => (Own.block HV10.out k hk).1)
  have HFC := Lib.hid (HFC.out.trans hf (fun x hx h => by rcases h with h | h <;> omega))
  have HOW := Lib.hid (hf.get HOW.out (hnF _ hltg hgk))
  have HH := Lib.hid hh
  have HCB2 := Lib.hid hcb
  have hk1 := hf.size
  clear hf hh hcb hfa HB10 HV10 c10
  have c12 := HI12.out.c18 _ _ HB12.out
  go_wp2_with (fail)
  refine (keep_held wk1 w1.heap.size _ _ 0 _ v12 g0.body HH.out (Own.mono HV12.out (fun x _ h => .inr (by omega))) (fun x hx => .inr (by omega)) (fun j e he => by
    have hj : j < 2 := by
      have := (List.getElem?_eq_some_iff.1 he).1
      simpa using this
    have hj2 : j = 0 ∨ j = 1 := by omega
    rcases hj2 with rfl | rfl
    · simp at he
      subst he
      refine ⟨fun k h1 h2 => ?_, fun k h1 h2 => ?_⟩
      · have := (Own.block HV12.out k h1).1; have := HA1.out k h2; omega
      · have := (Own.block HV12.out k h1).1; have := HCB.out k h2; omega
    · simp at he
      subst he
      refine ⟨fun k h1 h2 => ?_, fun k h1 h2 => ?_⟩
      · have := (Own.block HV12.out k h1).1; have := HB1.out k h2; omega
      · have := (Own.block HV12.out k h1).1; have := HCB2.out k h2; omega) (by have := HL0.out; omega) (by simp)).mono ?_
  rintro e w15 ⟨vo5, vw5, cc, rfl, hh, hf, hcb, hfa⟩
  have HFC := Lib.hid (HFC.out.trans hf (fun x hx h => by rcases h with h | h <;> omega))
  have HOW := Lib.hid (hf.get HOW.out (hnF _ hltg hgk))
  have HH := Lib.hid hh
  have hs15 := hf.size
  clear hf hh hcb hfa HB12 HV12 c12 HA1 HB1 HCB HCB2 HB14 HB16 HV14 HV16 HI8 HI10 HI12 HI14 HI16
  have hSw : S ≤ w15.heap.size := by omega
  clear hs8 ht8 hs10 ht10 hs12 ht12 hs14 ht14 hs16 ht16 hz0 hz1 hz2 hk0 hk1 hs15
  have hln := mark4_length xs 4 (by omega)
  generalize hmk : mark4 xs 4 = ls at *
  have HMK := Lib.hid hmk
  have HLN := Lib.hid hln
  clear hmk
  go_wp2_with (fail)
  go_loopw [22] (fun i wr => XorRel 1 ls g w15 i wr) (fun i _ => ls.length - (intOf i).toNat)
  case atStart => exact ⟨0, rfl, by omega, by simpa [xorL] using HOW.out, Fr.refl _ _⟩
  case round =>
    obtain ⟨j, rfl, hj, hx, hfx⟩ := hrel
    have HX := Lib.hid hx
    have HFX := Lib.hid hfx
    clear hx hfx
    by_cases hlt : j < ls.length
    · have hget := xorL_get 1 ls j hlt
      have cj : wr.cell? ⟨g, j, none⟩ = some (.int .u8 ((ls[j]).toNat : Int)) := cell_is HX.out j (by rw [List.getElem?_toArray, List.getElem?_map, hget]; rfl)
      have zj : wr.frozen? ⟨g, j, none⟩ = false := frozen_of HX.out j
      have hxor := bits_xor1 ls[j]
      have HE : Hid ((wr.setCell ⟨g, j, none⟩ (.int .u8 ((ls[j] ^^^ 1 : UInt8).toNat : Int))).heap[g]? = some (.cells ((xorL 1 ls (j + 1)).map byte).toArray 5 (0, 0))) := Lib.hid (by
        rw [heap_setCell_eq j _ HX.out, ← xorL_step 1 ls j hlt, List.map_set]
        simp [byte])
      have HF5 : Hid (Fr (fun x => x = g) w15 (wr.setCell ⟨g, j, none⟩ (.int .u8 ((ls[j] ^^^ 1 : UInt8).toNat : Int)))) := Lib.hid (HFX.out.setCell (.inl rfl) _)
      have hjn : j < xs.length + 4 := by omega
      have hxn := HXN.out
      have HXO := Lib.hid hxor
      clear hxor hget
      generalize (ls[j] ^^^ 1 : UInt8).toNat = cx at *
      generalize (ls[j]).toNat = cj0 at *
      have hxor2 := HXO.out
      go_wp2_with (fail)
      go_roundw
      case rel => exact ⟨j + 1, by simp, by omega, HE.out, HF5.out⟩
      case measure => simp [intOf]; omega
    · obtain rfl : j = ls.length := by omega
      rw [xorL_all] at HX
      have hzl : (ls.map (· ^^^ (1 : UInt8))).length = xs.length + 4 := by rw [List.length_map]; exact HLN.out
      generalize hzs : ls.map (· ^^^ (1 : UInt8)) = zs at *
      have HZL := Lib.hid hzl
      clear hzs hzl
      have hf := HFX.out
      have hgF : ¬ (g = w1.heap.size ∨ S ≤ g) := hnF g hltg hgk
      have HFC := Lib.hid (HFC.out.trans hf (fun x hx h => by omega))
      have HH := Lib.hid (HH.out.fr hf (fun x hx h => by subst h; exact hgF hx))
      have HOW := HX
      have hsx := hf.size
      clear hf HX HFX
      have hjw : ¬ ((ls.length : Int) < (xs.length : Int) + 4) := by have := HLN.out; omega
      have hxn := HXN.out
      have hfe : Fr (fun _ => False) wr (wr.alloc (.cells #[] 5)) := (Fr.refl _ wr).alloc _
      have HFE := Lib.hid hfe
      have HRZ : Hid (RB (wr.alloc (.cells #[] 5)) (.slice (some ⟨g, 0, none⟩) xs.length (xs.length + 4)) (zs.take xs.length)) := Lib.hid (own_cut (hfe.get HOW.out id) (by have := HZL.out; omega) (by have := HZL.out; unfold maxLen; omega) _ (by have := HZL.out; omega))
      have hzt : (zs.take xs.length).length = xs.length := by rw [List.length_take]; have := HZL.out; omega
      have HCUT : Hid (∀ w' : World, w'.heap[g]? = some (.cells (zs.map byte).toArray 5 (0, 0)) → RB w' (.slice (some ⟨g, 0, none⟩) xs.length (xs.length + 4)) (zs.take xs.length)) := Lib.hid (fun w' h => own_cut h (by have := HZL.out; omega) (by have := HZL.out; unfold maxLen; omega) _ (by have := HZL.out; omega))
      have HZT := Lib.hid hzt
      clear hzt hfe
      generalize hztt : zs.take xs.length = zt at *
      clear hztt
      go_wp2_with (first
        | (at_builtin; refine wpList_append_Own _ rfl _ _ 22 rfl 5 (.int .u8 0) 1 1 Try.underlying22 info5 rfl (by decide) (.slice (some ⟨wr.heap.size, 0, none⟩) 0 0) 0 [] rfl (Own.empty 5 1 (fun x => wr.heap.size ≤ x) wr (Nat.le_refl _)) (.slice (some ⟨g, 0, none⟩) xs.length (xs.length + 4)) xs.length (zt.map byte) rfl (by have h := HRZ.out.src; rw [HZT.out] at h; exact h) (by unfold maxLen; omega) (by omega) ?_; intro v20 w20 hv20 hf20 hn20 _; have hf : Fr (fun _ => False) wr w20 := HFE.out.trans hf20 (fun x hx h => by simp [Value.ownBlock] at h; omega); have HFC := Lib.hid (HFC.out.trans hf (fun _ _ h => h)); have HOW := Lib.hid (hf.get HOW.out id); have HH := Lib.hid (HH.out.none hf); have HV20 : Hid (OB 5 (fun x => wr.heap.size ≤ x) w20 v20 zt) := Lib.hid (by have h := OB.app (xs := []) (by rw [HZT.out]; exact hv20) (fun _ h => h) (fun x hx => by simp at hx; omega); exact h); have hs20 := hf.size; clear hv20 hf20 hn20 hf))
      have HGL : Hid ((getG zt).body.length ≤ 140737488351232) := Lib.hid (Nat.le_trans (getG_len zt) (by have := HZT.out; omega))
      have HDZ : Hid (∀ (v : Value) (w' : World), RB w' v zt → Calls Try.prog 25 #[v] w' (BoxPost (getG zt) w')) := Lib.hid (fun v w' h => refget_box v zt w' h (by have := HZT.out; omega))
      refine (get_box _ zt _ (HCUT.out _ HOW.out) (by have := HZT.out; omega)).mono ?_
      generalize getG zt = g2 at *
      rintro e wa24 ⟨r24, v24, rfl, hi, hv, hf⟩
      have HFC := Lib.hid (HFC.out.trans hf (fun _ _ h => h))
      have HH0 := HH
      have HH := Lib.hid (HH.out.none hf)
      have HV20 := Lib.hid (HV20.out.fr hf (fun _ _ _ h => h))
      have HI24 := Lib.hid hi
      have HV24 : Hid (OB 5 (fun x => w20.heap.size ≤ x) wa24 v24 g2.body) := Lib.hid hv
      have hs24 := hf.size
      clear hf hv hi
      go_wp2_with (first
        | ((refine store_guard _ _ _ _ rfl ?_); refine wpList_store_agg _ rfl _ _ 29 rfl wa24.heap.size 29 _ r24 rfl rfl HI24.out.size (heap_alloc_eq _ _) (by rw [HI24.out.len]; rfl) HI24.out.one ?_; intro wb24 hwr hfr; have hf : Fr (fun _ => False) wa24 wb24 := ((Fr.refl _ _).alloc _).trans hfr (fun x hx h => by omega); have HFC := Lib.hid (HFC.out.trans hf (fun _ _ h => h)); have HH := Lib.hid (HH.out.none hf); have HV20 := Lib.hid (HV20.out.fr hf (fun _ _ _ h => h)); have HV24 := Lib.hid (HV24.out.fr hf (fun _ _ _ h => h)); have HB24 := Lib.hid hwr; have ht24 : wa24.heap.size < wb24.heap.size := lt_of_heap hwr; clear hf hfr hwr))
      refine (HDZ.out _ _ (OB.rb HV20.out)).mono ?_
      rintro e wa25 ⟨r25, v25, rfl, hi, hv, hf⟩
      have HFC := Lib.hid (HFC.out.trans hf (fun _ _ h => h))
      have HH := Lib.hid (HH.out.none hf)
      have HV20 := Lib.hid (HV20.out.fr hf (fun _ _ _ h => h))
      have HV24 := Lib.hid (HV24.out.fr hf (fun _ _ _ h => h))
      have HB24 := Lib.hid (hf.get HB24.out id)
      have HI25 := Lib.hid hi
      have HV25 : Hid (OB 5 (fun x => wb24.heap.size ≤ x) wa25 v25 g2.body) := Lib.hid hv
      have hs25 := hf.size
      clear hf hv hi
      go_wp2_with (first
        | ((refine store_guard _ _ _ _ rfl ?_); refine wpList_store_agg _ rfl _ _ 29 rfl wa25.heap.size 29 _ r25 rfl rfl HI25.out.size (heap_alloc_eq _ _) (by rw [HI25.out.len]; rfl) HI25.out.one ?_; intro wb25 hwr hfr; have hf : Fr (fun _ => False) wa25 wb25 := ((Fr.refl _ _).alloc _).trans hfr (fun x hx h => by omega); have HFC := Lib.hid (HFC.out.trans hf (fun _ _ h => h)); have HH := Lib.hid (HH.out.none hf); have HV24 := Lib.hid (HV24.out.fr hf (fun _ _ _ h => h)); have HB24 := Lib.hid (hf.get HB24.out id); have HV25 := Lib.hid (HV25.out.fr hf (fun _ _ _ h => h)); have HB25 := Lib.hid hwr; have ht25 : wa25.heap.size < wb25.heap.size := lt_of_heap hwr; clear hf hfr hwr)
        | ((refine load_guard _ _ rfl ?_); refine wpList_load_row rfl 29 _ rfl wa24.heap.size rfl 29 _ (0, 0) _ HB24.out Try.underlying29 rfl HI24.out.size ?_)
        | ((refine load_guard _ _ rfl ?_); refine wpList_load_row rfl 29 _ rfl wa25.heap.size rfl 29 _ (0, 0) _ HB25.out Try.underlying29 rfl HI25.out.size ?_))
      refine (same_box HI24.out HI25.out (OB.rb HV24.out) (OB.rb HV25.out)).mono ?_
      rintro e w22 ⟨rfl, hf⟩
      have hs22 := hf.size
      have HFC := Lib.hid (HFC.out.trans hf (fun _ _ h => h))
      have HH := Lib.hid (HH.out.none hf)
      have HV24 := Lib.hid (HV24.out.fr hf (fun _ _ _ h => h))
      have HB24 := Lib.hid (hf.get HB24.out id)
      clear hf
      have c24 := HI24.out.c18 _ _ HB24.out
      go_wp2_with (fail)
      refine (keep_held w22 w1.heap.size _ _ 0 _ v24 g2.body HH.out (Own.mono HV24.out (fun x _ h => .inr (by omega))) (fun x hx => .inr (by omega)) (fun j e he => ⟨fun k h1 h2 => by have h3 := (Own.block HV24.out k h1).1; have h4 := HH0.out.pile.lt he (.inl h2); omega, fun k h1 h2 => by have h3 := (Own.block HV24.out k h1).1; have h4 := HH0.out.pile.lt he (.inr h2); omega⟩) (by have := HGL.out; omega) (by simp)).mono ?_
      rintro e w23 ⟨vo6, vw6, cd, rfl, hh, hf, -, -⟩
      have HFC := Lib.hid (HFC.out.trans hf (fun x hx h => by rcases h with h | h <;> omega))
      have hs23 := hf.size
      clear hf c24
      have HHL := Lib.hid hh
      clear hh
      go_wp2_with (fail)
      refine (spoil_any w23 w1.heap.size 140737488351232 _ _ _ HHL.out (fun x hx => .inr (by omega)) (by omega) (fun j e he => by
        have hj : j < 4 := by
          have := (List.getElem?_eq_some_iff.1 he).1
          simpa using this
        have hj2 : j = 0 ∨ j = 1 ∨ j = 2 ∨ j = 3 := by omega
        rcases hj2 with rfl | rfl | rfl | rfl
        · simp at he; subst he; exact HL0.out
        · simp at he; subst he; exact HL1.out
        · simp at he; subst he; exact HL0.out
        · simp at he; subst he; exact HGL.out) (by simp)).mono ?_
      rintro e w24 ⟨rfl, hf⟩
      have HFC := Lib.hid (HFC.out.trans hf (fun x hx h => by rcases h with h | h <;> omega))
      clear hf
      go_wp2_with (fail)
      go_ret
      exact ⟨rfl, HFC.out⟩

end Go.Proofs.Ytpecbhimnpjkdaa
