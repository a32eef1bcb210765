/- The lists that were handed out: holds, keep. -/
import Derived.Test.YtikimfdijkejpaaHpHeld
import Derived.Deep.RegionLaw
namespace Go.Proofs.Ytikimfdijkejpaa.HT
open Go.RowKit Go.Sb

theorem rj_ri {w : World} {v : Value} {xs : List Int} (h : RJ w v xs) (hn : xs.length ≤ 4611686018427387904) : RI w v xs := by
  obtain ⟨a, c, rfl, h1⟩ := h
  exact ⟨a, c, rfl, hn, h1⟩

theorem rj_src {w : World} {v : Value} {xs : List Int} (h : RJ w v xs) : Src w v xs.length 1 (xs.map bi) := by
  obtain ⟨a, c, rfl, h1⟩ := h
  refine ⟨by simp, fun u hu => ?_, ?_⟩
  · obtain ⟨z, _, rfl⟩ := List.mem_map.1 hu
    rfl
  · by_cases h0 : 0 < xs.length
    · obtain ⟨b, rfl, h2⟩ := h1 h0
      refine .inr ⟨_, c, rfl, fun j u hu => ?_⟩
      rw [List.getElem?_map] at hu
      obtain ⟨x, hx, rfl⟩ := Option.map_eq_some_iff.1 hu
      rw [show ((⟨b, 0, none⟩ : Addr).add j) = ⟨b, j, none⟩ from by unfold Addr.add; split <;> simp_all]
      exact h2 j x hx
    · have hx : xs = [] := List.eq_nil_of_length_eq_zero (by omega)
      subst hx
      cases a with
      | none => exact .inl ⟨c, rfl, rfl⟩
      | some ad => exact .inr ⟨ad, c, rfl, fun j u hu => by simp at hu⟩

/-- no list is longer -/
def Lim (M : Nat) (L : List Ent) : Prop := ∀ (j : Nat) (e : Ent), L[j]? = some e → e.xs.length ≤ M

set_option maxRecDepth 100000 in
set_option maxHeartbeats 1000000 in
theorem holds_any {F : Nat → Prop} (w : World) (h : Nat) (av bv vo vw fr : Value) (L : List Ent) (hr : HRows 71 22 F w h vo vw ([av, bv], [fr]) L)
    (hp : ∀ (j : Nat) (e : Ent), L[j]? = some e → RJ w e.out e.xs ∧ RJ w e.want e.xs) (hm : Lim 4611686018427387904 L) (hn : L.length ≤ 4611686018427387904) :
    Calls Try.prog 33 #[.pointer (some ⟨h, 2, none⟩)] w fun e w' => e = .returned (.bool true) ∧ ∃ n, w' = w.drewN n := by
  have hc0 : w.cell? ⟨h, 2, none⟩ = some vo := cell_is hr.head 2 rfl
  have hc1 : w.cell? ⟨h, 3, none⟩ = some vw := cell_is hr.head 3 rfl
  have HR := Lib.hid hr
  have HP := Lib.hid hp
  have HM := Lib.hid hm
  obtain ⟨ao, co, rfl⟩ : ∃ a c, vo = .slice a L.length c := by
    rcases hr.outs.shape with ⟨rfl, hl, _⟩ | ⟨go, co, rfl, _⟩
    · exact ⟨none, 0, by rw [hl]⟩
    · exact ⟨_, _, rfl⟩
  clear hr hp hm
  go_enter Try.func33, Try.ntmps33
  go_wp2_with (fail)
  go_loopw [10] (fun i wr => ∃ k m : Nat, i = .int .i64 (k : Int) ∧ k ≤ L.length ∧ wr = w.drewN m) (fun i _ => L.length - (intOf i).toNat)
  case atStart => exact ⟨0, 0, rfl, by omega, rfl⟩
  case round =>
    obtain ⟨k, m, rfl, hk, hw⟩ := hrel
    have hcx : ∀ a, wr.cell? a = w.cell? a := fun a => by rw [hw]; rfl
    rw [← hcx] at hc0 hc1
    by_cases hlt : k < L.length
    · obtain ⟨go, co', ho, _, _⟩ := Go.Sb.Own.some HR.out.outs (by omega)
      cases ho
      obtain ⟨gw, cw, rfl, _, _⟩ := Go.Sb.Own.some HR.out.wants (by omega)
      have he : L[k]? = some (L[k]'hlt) := List.getElem?_eq_getElem hlt
      obtain ⟨hp1, hp2⟩ := HP.out k _ he
      have hmk := HM.out k _ he
      have h1 : wr.cell? ⟨go, k, none⟩ = some (L[k]'hlt).out := (hcx _).trans (HR.out.outs.cell rfl (by rw [List.getElem?_map, he]; rfl))
      have h2 : wr.cell? ⟨gw, k, none⟩ = some (L[k]'hlt).want := (hcx _).trans (HR.out.wants.cell rfl (by rw [List.getElem?_map, he]; rfl))
      have HS := Lib.hid (same_eq (L[k]'hlt).out (L[k]'hlt).want _ wr (rj_ri (hw ▸ hp1.drewN m) hmk) (rj_ri (hw ▸ hp2.drewN m) hmk))
      have HW := Lib.hid hw
      clear hp1 hp2 he hcx hw hmk
      generalize (L[k]'hlt).out = vx at *
      generalize (L[k]'hlt).want = vy at *
      go_wp2_with (fail)
      refine HS.out.mono ?_
      rintro e w3 ⟨rfl, n3, hw3⟩
      go_wp2_with (fail)
      refine ⟨⟨k + 1, m + n3, by simp, hlt, by rw [HW.out, World.drewN_drewN]⟩, ?_⟩
      simp [intOf]
      omega
    · have hkn : k = L.length := by omega
      subst hkn
      have HW := Lib.hid hw
      clear hcx hw
      go_wp2_with (fail)
      go_ret
      exact ⟨rfl, m, HW.out⟩

theorem infoS : (Try.prog.info? 22).map (fun i => (i.zero, i.size, i.bytes)) = some (some (.slice none 0 0), 1, 24) := by kernel_rfl
theorem info3 : (Try.prog.info? 3).map (fun i => (i.zero, i.size, i.bytes)) = some (some (.int .i64 0), 1, 8) := by kernel_rfl

/-- one value just laid -/
theorem src_val (w : World) (u : Value) (T : TypeId) (hu : u.oneCell' = true) : Src (w.alloc (.cells #[u] T)) (.slice (some ⟨w.heap.size, 0, none⟩) 1 1) 1 1 [u] := by
  refine ⟨by simp, fun x hx => ?_, .inr ⟨_, 1, rfl, fun j x hx => ?_⟩⟩
  · simp only [List.mem_singleton] at hx
    subst hx; exact hu
  · match j with
    | 0 =>
      simp only [List.getElem?_cons_zero, Option.some.injEq] at hx
      subst hx
      exact cell_is (heap_alloc_eq w (.cells #[u] T)) 0 rfl
    | j + 1 => simp at hx

def KeepPost (F : Nat → Prop) (w : World) (h : Nat) (av bv vo vw fr : Value) (L : List Ent) (b : Value) (xs : List Int) (e : Ending) (w' : World) : Prop :=
  ∃ vo' vw' c, e = .returned (.tuple #[]) ∧ HRows 71 22 F w' h vo' vw' ([av, bv], [fr]) (L ++ [⟨b, c, xs⟩]) ∧ OB 3 (fun k => w.heap.size ≤ k) w' c xs ∧ Fr (HRows.at h vo vw) w w'

set_option maxRecDepth 100000 in
set_option maxHeartbeats 2000000 in
theorem keep_any {F : Nat → Prop} (w : World) (h : Nat) (av bv vo vw fr : Value) (L : List Ent) (b : Value) (xs : List Int) (hr : HRows 71 22 F w h vo vw ([av, bv], [fr]) L) (hb : OB 3 F w b xs) (hF : ∀ k, w.heap.size ≤ k → F k)
    (hm : xs.length ≤ 8796093022208) (hn : L.length ≤ 8796093022208) :
    Calls Try.prog 79 #[.pointer (some ⟨h, 2, none⟩), b] w (KeepPost F w h av bv vo vw fr L b xs) := by
  have HB := Lib.hid hb
  obtain ⟨ab, cb, rfl, _⟩ := hb.rb
  have hh : w.heap[h]? = some (.cells #[av, bv, vo, vw, fr] 71 (0, 0)) := hr.head
  have hlt := lt_of_heap hh
  have c2 : w.cell? ⟨h, 2, none⟩ = some vo := cell_is hh 2 rfl
  have HR := Lib.hid hr
  have HH := Lib.hid hh
  have hno := Go.Sb.own_ne (R := 22) hh (by decide) hr.outs
  clear hr hb hh
  go_enter Try.func79, Try.ntmps79
  go_wp2_with (at_builtin; refine wpList_append_Own _ rfl _ _ 67 rfl 22 (.slice none 0 0) 1 24 Try.underlying67 infoS rfl (by decide) vo L.length (L.map (·.out)) rfl (HR.out.outs.alloc _) (.slice (some ⟨w.heap.size, 0, none⟩) 1 1) 1 [.slice ab xs.length cb] rfl (src_val w (.slice ab xs.length cb) 22 rfl) (by unfold maxLen; omega) (by omega) ?_; intro v3 w3 hv3 hf3 hn3 hd3; have hh3 : w3.heap[h]? = some (.cells #[av, bv, vo, vw, fr] 71 (0, 0)) := hf3.get ((heap_alloc_lt _ _ _ hlt).trans HH.out) hno; have hc3 : w3.cell? ⟨h, 2, none⟩ = some vo := cell_is hh3 2 rfl; have hz3 := frozen_of hh3 2; obtain ⟨g3, k3, rfl, _, _⟩ := hv3.some (by omega); have HX := Lib.hid (row_grown (j := 2) HH.out (by decide) HR.out.outs HR.out.wants HR.out.apart hF hv3 hf3 hd3); clear hv3 hf3 hn3 hd3 hh3)
  generalize hv3 : (Value.slice (some ⟨g3, 0, none⟩) (L.length + 1) k3) = v3 at *
  generalize w3.setCell ⟨h, 2, none⟩ v3 = w4 at *
  obtain ⟨x1, x2, x3, x4, x5⟩ := HX.out
  have hh4 : w4.heap[h]? = some (.cells #[av, bv, v3, vw, fr] 71 (0, 0)) := x1
  have hf4 : Fr (HRows.at h vo vw) w w4 := x5.mono (fun k _ hk => hk.imp id .inl)
  have hb4 : OB 3 F w4 (.slice ab xs.length cb) xs := OB.of HB.out (HR.out.blk hf4 (by decide) (by decide) HB.out.rd.2)
  have hs4 := hf4.size
  have c3 : w4.cell? ⟨h, 3, none⟩ = some vw := cell_is hh4 3 rfl
  have hbl4 := lt_of_heap hh4
  have HH4 := Lib.hid hh4
  have HF4 := Lib.hid hf4
  have HB4 := Lib.hid hb4
  have HX2 := Lib.hid x2
  have HX3 := Lib.hid x3
  have HX4 := Lib.hid x4
  clear hh4 hf4 hb4 x1 x2 x3 x4 x5 HX c2 hc3 hz3
  have hsrc : Src w4.drew (.slice ab xs.length cb) xs.length 1 (xs.map bi) := rj_src (HB4.out.rb.drewN 1)
  go_region_law (first
    | (refine step_append_Own rfl _ _ 67 rfl 22 (.slice none 0 0) 1 24 Try.underlying67 infoS rfl (by decide) vw L.length (L.map (·.want)) rfl (HW5.out.alloc _) (.slice (some ⟨w5.heap.size, 0, none⟩) 1 1) 1 [.slice a5 n5 k5] rfl (src_val w5 (.slice a5 n5 k5) 22 rfl) (by unfold maxLen; omega) (by omega) ?_; intro v6 w6 hv6 hf6 hn6 hd6; have hno6 := Go.Sb.own_ne HH5.out (by decide) HW5.out; have hh6 : w6.heap[h]? = some (.cells #[av, bv, v3, vw, fr] 71 (0, 0)) := hf6.get ((heap_alloc_lt _ _ _ (lt_of_heap HH5.out)).trans HH5.out) hno6; have hc6 : w6.cell? ⟨h, 3, none⟩ = some vw := cell_is hh6 3 rfl; have hz6 := frozen_of hh6 3; obtain ⟨g6, k6, rfl, _, _⟩ := hv6.some (by omega); have HY := Lib.hid (row_grown (j := 3) HH5.out (by decide) HW5.out HO5.out HX4.out.symm (fun k hk => hF k (Nat.le_trans hs4 (Nat.le_trans HF5.out.size hk))) hv6 hf6 hd6); clear hv6 hf6 hn6 hd6 hno6 hh6)
    | (refine step_append_Own rfl _ _ 22 rfl 3 (.int .i64 0) 1 8 Try.underlying22 info3 rfl (by decide) (.slice none 0 0) 0 [] rfl (Own.nil 3 1 (fun k => w.heap.size ≤ k) _) (.slice ab xs.length cb) xs.length (xs.map bi) rfl hsrc (by unfold maxLen; omega) (by omega) ?_; intro v5 w5 hv5 hf5 hn5 hd5; have hf5' : Fr (fun _ => False) w4 w5 := ((Fr.refl (fun _ => False) w4).drew).trans hf5 (fun k _ h => by cases h); have hv5' : OB 3 (fun k => w.heap.size ≤ k) w5 v5 xs := (by simpa [OB] using hv5.mono (G := fun k => w.heap.size ≤ k) (fun k _ hk => hk.elim id (fun hk => Nat.le_trans hs4 hk))); have HH5 := Lib.hid (hf5'.get HH4.out id); have HW5 := Lib.hid (HX3.out.fr hf5' (fun _ _ _ h => h)); have HO5 := Lib.hid (HX2.out.fr hf5' (fun _ _ _ h => h)); have c35 : w5.cell? ⟨h, 3, none⟩ = some vw := cell_is HH5.out 3 rfl; have hl5 : h < w5.heap.size := lt_of_heap HH5.out; obtain ⟨a5, n5, k5, rfl⟩ := own_slice hv5; have HV5 := Lib.hid hv5'; have HF5 := Lib.hid hf5'; clear hv5 hv5' hf5 hf5' hn5 hd5))
  all_goals
    go_end0
    obtain ⟨y1, y2, y3, y4, y5⟩ := HY.out
    have hf46 := (HF5.out.mono (F' := HRows.at h vo vw) (fun _ _ h => h.elim)).trans y5 (fun k _ hk => hk.imp id .inr)
    refine ⟨_, _, .slice a5 n5 k5, rfl, ⟨y1, HR.out.mine, ?_, ?_, y4.symm⟩, ?_, HF4.out.trans hf46 (fun _ _ h => h)⟩
    · rw [List.length_append, List.map_append]
      exact y3
    · rw [List.length_append, List.map_append]
      exact y2
    · refine OB.of HV5.out (fun k hk => y5.block k (Own.block HV5.out k hk).2 ?_)
      obtain ⟨cs, hcs⟩ := (OB.rd HV5.out).2 k hk |>.2
      rintro (h1 | h1)
      · rw [h1] at hcs
        exact ne_of_types HH5.out hcs (by decide) rfl
      · rcases HW5.out.2 with ⟨he, _⟩ | ⟨g, cap, cur, he, _, hg, _⟩
        · rw [he] at h1
          cases h1
        · rw [he] at h1
          simp only [Value.ownBlock, Option.some.injEq] at h1
          subst h1
          exact ne_of_types hg hcs (by decide) rfl

end Go.Proofs.Ytikimfdijkejpaa.HT
