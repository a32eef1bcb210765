/- The laws' list of what was handed out: holds, keep. -/
import Derived.Test.YtgobbgklmjnnlaaFrKit
import Derived.Test.YtgobbgklmjnnlaaHeld
namespace Go.Proofs.Ytgobbgklmjnnlaa
open Go.RowKit Go.Sb

def HoldRel (w : World) (n : Nat) (i : Value) (wr : World) : Prop := ∃ k m : Nat, i = .int .i64 (k : Int) ∧ k ≤ n ∧ wr = w.drewN m

set_option maxRecDepth 100000 in
set_option maxHeartbeats 1000000 in
theorem holds_any {F : Nat → Prop} (w : World) (h : Nat) (vo vw : Value) (L : List Ent) (hr : HRows 29 22 F w h vo vw [] L)
    (hp : ∀ (j : Nat) (e : Ent), L[j]? = some e → RB w e.out e.xs ∧ RB w e.want e.xs) (hn : L.length ≤ 9223372036854775807) :
    Calls Try.prog 21 #[.pointer (some ⟨h, 0, none⟩)] w (Quiet (.bool true) w) := by
  have hc0 : w.cell? ⟨h, 0, none⟩ = some vo := cell_is hr.head 0 rfl
  have hc1 : w.cell? ⟨h, 1, none⟩ = some vw := cell_is hr.head 1 rfl
  rcases hr.outs.shape with ⟨rfl, hl, _⟩ | ⟨go, co, rfl, ho1, ho2, hob⟩
  · go_enter Try.func21, Try.ntmps21
    go_wp2_with (fail)
    refine wp_loop_rounds 1 ?_
    rw [rounds_succ]
    go_wp2_with (fail)
    go_ret
    exact ⟨rfl, 0, rfl⟩
  · have hcw : L.length = 0 ∨ ∃ gw cw, vw = .slice (some ⟨gw, 0, none⟩) L.length cw ∧ vw.ownBlock = some gw := by
      rcases hr.wants.shape with ⟨_, hl, _⟩ | ⟨gw, cw, he, hw1, hw2, hwb⟩
      · exact .inl hl
      · exact .inr ⟨gw, cw, he, hwb⟩
    have HR := Lib.hid hr
    have HP := Lib.hid hp
    clear hr hp
    go_enter Try.func21, Try.ntmps21
    go_wp2_with (fail)
    go_loopw [3] (fun i wr => HoldRel w L.length i wr) (fun i _ => L.length - (intOf i).toNat)
    case atStart => exact ⟨0, 0, rfl, by omega, rfl⟩
    case round =>
      obtain ⟨k, m, rfl, hk, hw⟩ := hrel
      have hcx : ∀ a, wr.cell? a = w.cell? a := fun a => by rw [hw]; rfl
      rw [← hcx] at hc0 hc1
      by_cases hlt : k < L.length
      · rcases hcw with h0 | ⟨gw, cw, rfl, hwb⟩
        · omega
        · have he : L[k]? = some (L[k]'hlt) := List.getElem?_eq_getElem hlt
          obtain ⟨hp1, hp2⟩ := HP.out k _ he
          have h1 : wr.cell? ⟨go, k, none⟩ = some (L[k]'hlt).out := (hcx _).trans (HR.out.outs.cell rfl (by rw [List.getElem?_map, he]; rfl))
          have h2 : wr.cell? ⟨gw, k, none⟩ = some (L[k]'hlt).want := (hcx _).trans (HR.out.wants.cell rfl (by rw [List.getElem?_map, he]; rfl))
          have hkk : (k : Int) < (L.length : Int) := by omega
          have HS : Hid (∀ n, Calls Try.prog 20 #[(L[k]'hlt).out, (L[k]'hlt).want] (wr.drewN n) fun e w' => e = .returned (.bool true) ∧ ∃ j, w' = (wr.drewN n).drewN j) := fun n => by
            have hx := same_any _ _ _ _ (wr.drewN n) ((hw ▸ hp1.drewN m : RB wr _ _).drewN n) ((hw ▸ hp2.drewN m : RB wr _ _).drewN n)
            rw [decide_eq_true rfl] at hx
            exact hx
          have HW := Lib.hid hw
          clear hp1 hp2 he hcx hw
          generalize (L[k]'hlt).out = vx at *
          generalize (L[k]'hlt).want = vy at *
          go_wp2_with (fail)
          go_quiet ((go_at_call 20; refine Calls.quiet_of (HS.out _)))
          go_wp2_with (fail)
          go_roundw
          case rel => exact ⟨k + 1, m + nq, rfl, hlt, by rw [HW.out, World.drewN_drewN]⟩
          case measure => simp [intOf]; omega
      · have hkn : k = L.length := by omega
        subst hkn
        have HW := Lib.hid hw
        clear hcx hw
        go_wp2_with (fail)
        go_ret
        exact ⟨rfl, m, HW.out⟩

theorem Try.info22 : (Try.prog.info? 22).map (fun i => (i.zero, i.size, i.bytes)) = some (some (.slice none 0 0), 1, 24) := by kernel_rfl

/-- one value just laid -/
theorem src_val (w : World) (u : Value) (T : TypeId) (hu : u.oneCell' = true) : Src (w.alloc (.cells #[u] T)) (.slice (some ⟨w.heap.size, 0, none⟩) 1 1) 1 1 [u] := by
  refine ⟨by simp, fun x hx => ?_, .inr ⟨_, 1, rfl, fun j x hx => ?_⟩⟩
  · simp only [List.mem_singleton] at hx
    subst hx; exact hu
  · match j with
    | 0 =>
      simp only [List.getElem?_cons_zero, Option.some.injEq] at hx
      subst hx
      exact cell_is (heap_alloc_eq w (.cells #[u] T)) 0 rfl
    | j + 1 => simp at hx

theorem src_at (w : World) (n : Nat) (u : Value) (T : TypeId) (hu : u.oneCell' = true) (hn : n = w.heap.size) : Src (w.alloc (.cells #[u] T)) (.slice (some ⟨n, 0, none⟩) 1 1) 1 1 [u] := by
  subst hn
  exact src_val w u T hu

def KeepPost (F : Nat → Prop) (w : World) (h : Nat) (vo vw : Value) (L : List Ent) (b : Value) (xs : List UInt8) (e : Ending) (w' : World) : Prop :=
  ∃ vo' vw' c, e = .returned (.tuple #[]) ∧ HRows 29 22 F w' h vo' vw' [] (L ++ [⟨b, c, xs⟩]) ∧ OB 5 (fun k => w.heap.size ≤ k) w' c xs ∧ Fr (HRows.at h vo vw) w w'

set_option maxRecDepth 100000 in
set_option maxHeartbeats 1000000 in
theorem keep_any {F : Nat → Prop} (w : World) (h : Nat) (vo vw : Value) (L : List Ent) (b : Value) (xs : List UInt8) (hr : HRows 29 22 F w h vo vw [] L) (hb : RB w b xs) (hF : ∀ k, w.heap.size ≤ k → F k)
    (hm : xs.length ≤ 140737488360000) (hn : L.length ≤ 1099511627776) :
    Calls Try.prog 22 #[.pointer (some ⟨h, 0, none⟩), b] w (KeepPost F w h vo vw L b xs) := by
  have HB := Lib.hid hb
  obtain ⟨ab, cb, rfl, _⟩ := hb
  have hh := lt_of_heap hr.head
  have HR := Lib.hid hr
  go_enter Try.func22, Try.ntmps22
  go_wp2_with (fail)
  refine (copied_any _ xs w HB.out hm).mono ?_
  rintro e w1 ⟨c, rfl, hc1, hf1, _⟩
  have HC1 := Lib.hid hc1
  obtain ⟨ac, cc, rfl, _⟩ := hc1.rb
  have hr1 := hr.fr hf1 (fun _ _ h => h)
  have HF1 := Lib.hid hf1
  have HR1 := Lib.hid hr1
  have hs1 := hf1.size
  clear hr hc1 hf1
  have hcell : w1.cell? ⟨h, 0, none⟩ = some vo := cell_is hr1.head 0 rfl
  have HH1 := Lib.hid hr1.head
  have hno := own_ne (R := 22) hr1.head (by decide) hr1.outs
  clear hr1
  go_wp2_with (first
    | (at_builtin; refine wpList_append_Own _ rfl _ _ 27 rfl 22 (.slice none 0 0) 1 24 Try.underlying27 Try.info22 rfl (by decide) vo L.length (L.map (·.out)) rfl (HR1.out.outs.alloc _) (.slice (some ⟨w1.heap.size, 0, none⟩) 1 1) 1 [.slice ab xs.length cb] rfl (src_val w1 (.slice ab xs.length cb) 22 rfl) (by unfold maxLen; omega) (by omega) ?_; intro v3 w3 hv3 hf3 hn3 hd3; have hh3 : w3.heap[h]? = some (.cells #[vo, vw] 29 (0, 0)) := hf3.get ((heap_alloc_lt _ _ _ (by omega)).trans HH1.out) hno; have hc3 : w3.cell? ⟨h, 0, none⟩ = some vo := cell_is hh3 0 rfl; have hc4 : w3.cell? ⟨h, 1, none⟩ = some vw := cell_is hh3 1 rfl; have hz3 := frozen_of hh3 0; obtain ⟨g3, k3, rfl, _, _⟩ := hv3.some (by omega); have HX := Lib.hid (row_grown (j := 0) HH1.out (by decide) HR1.out.outs HR1.out.wants HR1.out.apart (fun k hk => hF k (Nat.le_trans hs1 hk)) hv3 hf3 hd3); clear hv3 hf3 hn3 hd3 hh3)
    | (at_builtin; refine wpList_append_Own _ rfl _ _ 27 rfl 22 (.slice none 0 0) 1 24 Try.underlying27 Try.info22 rfl (by decide) vw L.length (L.map (·.want)) rfl (HX.out.2.2.1.alloc _) (.slice (some ⟨w3.heap.size, 0, none⟩) 1 1) 1 [.slice ac xs.length cc] rfl (src_at _ _ (.slice ac xs.length cc) 22 rfl (by simp)) (by unfold maxLen; omega) (by omega) ?_; intro v5 w5 hv5 hf5 hn5 hd5; obtain ⟨g5, k5, rfl, _, _⟩ := hv5.some (by omega); have hno5 := own_ne HX.out.1 (by decide) HX.out.2.2.1; have hh5 := hf5.get ((heap_alloc_lt _ _ _ (by simp; have := lt_of_heap HX.out.1; simp at this; exact this)).trans HX.out.1) hno5; have hc5 : w5.cell? ⟨h, 1, none⟩ = some vw := cell_is hh5 1 rfl; have hz5 := frozen_of hh5 1; have HY := Lib.hid (row_grown (j := 1) HX.out.1 (by decide) HX.out.2.2.1 HX.out.2.1 HX.out.2.2.2.1.symm (fun k hk => hF k (Nat.le_trans hs1 (Nat.le_trans HX.out.2.2.2.2.size hk))) hv5 hf5 hd5); clear hv5 hf5 hn5 hd5 hh5))
  go_end0
  obtain ⟨x1, x2, x3, x4, x5⟩ := HX.out
  obtain ⟨y1, y2, y3, y4, y5⟩ := HY.out
  have hfr : Fr (HRows.at h vo vw) w1 _ := (x5.mono (fun k _ hk => hk.imp id .inl)).trans y5 (fun k _ hk => hk.imp id .inr)
  refine ⟨_, _, _, rfl, ⟨y1, HR1.out.mine, ?_, ?_, y4.symm⟩, OB.of HC1.out (HR1.out.blk hfr (by decide) (by decide) HC1.out.rd.2), (HF1.out.mono (fun _ _ h => h.elim)).trans hfr (fun k _ hk => hk)⟩
  · rw [List.length_append, List.map_append]
    exact y3
  · rw [List.length_append, List.map_append]
    exact y2

/-- keep, in the words of the whole list -/
theorem keep_held {F : Nat → Prop} (w : World) (h : Nat) (vo vw : Value) (L : List Ent) (b : Value) (xs : List UInt8) (hh : Held 29 22 5 F w (fun _ => True) h vo vw [] L) (hb : OB 5 F w b xs) (hF : ∀ k, w.heap.size ≤ k → F k)
    (hap : ∀ (j : Nat) (e : Ent), L[j]? = some e → Apart b e.out ∧ Apart b e.want) (hm : xs.length ≤ 140737488360000) (hn : L.length ≤ 1099511627776) :
    Calls Try.prog 22 #[.pointer (some ⟨h, 0, none⟩), b] w fun e w' => ∃ vo' vw' c, e = .returned (.tuple #[]) ∧ Held 29 22 5 F w' (fun _ => True) h vo' vw' [] (L ++ [⟨b, c, xs⟩]) ∧ Fr F w w' := by
  refine (keep_any w h vo vw L b xs hh.rows hb.rb hF hm hn).mono ?_
  rintro e w' ⟨vo', vw', c, he, hr, hc, hf⟩
  have hp := hh.rows.pile hh.pile hf (by decide) (by decide)
  have hb' : OB 5 F w' b xs := OB.of hb (hh.rows.blk hf (by decide) (by decide) hb.rd.2)
  have hc' : OB 5 F w' c xs := Own.mono hc (fun k _ hk => hF k hk)
  have cbig : ∀ k, c.ownBlock = some k → w.heap.size ≤ k := fun k hk => (Own.block hc k hk).1
  have hk := hp.keep hb' hc' (fun k hk hk' => by have := cbig k hk'; have := (Own.block hb k hk).2; omega) (fun j e he => by
    obtain ⟨h1, h2⟩ := hap j e he
    refine ⟨h1, h2, fun k hk hk' => ?_, fun k hk hk' => ?_⟩
    · have := cbig k hk; have := hh.pile.lt he (.inl hk'); omega
    · have := cbig k hk; have := hh.pile.lt he (.inr hk'); omega)
  exact ⟨vo', vw', c, he, ⟨hr, hk.lift (fun j hj _ => by simp at hj ⊢; omega)⟩, hh.rows.frF hf⟩

end Go.Proofs.Ytgobbgklmjnnlaa
