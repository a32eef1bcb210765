/- The queue's iterator at one type of things: what a range over it may count on. -/
import Derived.Test.YtolonoabipnpfaaQI
import Derived.Test.YtolonoabipnpfaaRangeNext
import Derived.Test.YtolonoabipnpfaaOwnStep
import Derived.Test.YtolonoabipnpfaaQIt
import Derived.StillTailTactics
import Derived.Shelf.Abstract
import Derived.WalkKit
import Derived.OwnWalkIn
import Derived.TacticsInMore
import Derived.LoopNIn
import Derived.LoopIn
namespace Go.Proofs.Ytolonoabipnpfaa.QI
open Go.RowKit Go.Sb
attribute [local go_sem] Oper.semAt_some

theorem infoP : (Try.prog.info? 96).map (fun i => (i.zero, i.size, i.bytes)) = some (some (.agg #[.int .i64 0, .int .i64 0, .pointer none, .pointer none]), 4, 32) := by kernel_rfl

theorem all_any (bq : Nat) (w : World) :
    Calls Try.prog 24 #[.pointer (some ⟨bq,0,none⟩)] w fun e w' => e = .returned (.func (.func 43) #[] #[.pointer (some ⟨w.heap.size, 0, none⟩)]) ∧ w' = w.alloc (.cells #[.pointer (some ⟨bq, 0, none⟩)] 45) := by
  go_enter Try.func24, Try.ntmps24
  go_wp2_with (fail)
  go_ret
  exact ⟨rfl, rfl⟩

set_option maxRecDepth 100000 in
set_option maxHeartbeats 1000000 in
theorem all1_in (F : Nat → Prop) (bq bm Bn l : Nat) (g : Int) (w : World) (ls : List Nd) (xs : List (Int × Int)) (h : QRep 93 96 F w bq g ls bm) (hx : ls.map nv = xs.map (fun x => (x.1, .int .i64 x.2))) (hlen : xs.length ≤ 4398046511104)
    (J Jx : List (Int × Int) → World → Prop) (hJ : AbidesFrom w.heap.size J)
    (hY : ∀ pre x W1, J pre W1 → pre ++ [x] <+: xs → YieldAt Fence.wide 0 Try.prog l #[.int .i64 x.1, .int .i64 x.2] W1 fun e W' =>
      (e = .returned (.bool true) ∧ J (pre ++ [x]) W' ∧ KeepBuf 96 W1 W') ∨ (e = .returned (.bool false) ∧ Jx (pre ++ [x]) W'))
    (hBn : w.cell? ⟨Bn, 0, none⟩ = some (.pointer (some ⟨bq, 0, none⟩))) (h0 : J [] w) :
    CallsIn Fence.wide 0 Try.prog 43 #[.func (.yield l) #[] #[], .pointer (some ⟨Bn, 0, none⟩)] w fun e W' => (∃ v, e = .returned v) ∧
      ((∃ ys, ys = xs ∧ J ys W') ∨ (∃ pre, pre <+: xs ∧ Jx pre W')) := by
  refine callsIn_wide.2 ?_
  have c0 : w.cell? ⟨bq, 0, none⟩ = some (.pointer (hd ls)) := cell_is h.head 0 rfl
  have HQ := Lib.hid h
  have HX := Lib.hid hx
  have HJ := Lib.hid hJ
  have HY := Lib.hid hY
  have H0 := Lib.hid h0
  have HL := Lib.hid hlen
  clear h hx hJ hY h0 hlen
  go_enter Try.func43, Try.ntmps43
  go_wp2_with (fail)
  go_loopw [3, 4] (fun lv p wr => ItRel 96 w ls lv p wr) (fun lv _ _ => ls.length - lenV lv)
  case atStart => exact ItRel.start 96 w ls
  case round =>
    obtain ⟨us, rest, rfl, hp, hown, hf⟩ := hrel
    have HLU := Lib.hid (lenV_own hown)
    cases rest with
    | cons n rest =>
      simp only [hd] at hp
      subst hp
      have hq := HQ.out.fr hf (fun _ _ _ h => h)
      have hnd := nd_at hq rfl
      obtain ⟨nb, nt, nd⟩ := n
      obtain ⟨x, rfl, rfl⟩ : ∃ x : Int × Int, nt = x.1 ∧ nd = .int .i64 x.2 := by
        have hm : nv ⟨nb, nt, nd⟩ ∈ xs.map (fun x => (x.1, .int .i64 x.2)) := by rw [← HX.out]; simp
        obtain ⟨x, _, he⟩ := List.mem_map.1 hm
        exact ⟨x, (congrArg Prod.fst he).symm, (congrArg Prod.snd he).symm⟩
      have d0 : wr.cell? ⟨nb, 0, none⟩ = some (.int .i64 x.1) := cell_is hnd 0 rfl
      have d1 : wr.cell? ⟨nb, 1, none⟩ = some (.int .i64 x.2) := cell_is hnd 1 rfl
      have d3 : wr.cell? ⟨nb, 3, none⟩ = some (.pointer (hd rest)) := cell_is hnd 3 rfl
      have HOWN := Lib.hid hown
      have HF := Lib.hid hf
      clear hnd hq hown hf
      have hnl : nb < w.heap.size := HQ.out.nd_lt ⟨nb, x.1, .int .i64 x.2⟩ (by simp)
      have hul : us.length < 4398046511104 := by
        have h1 := congrArg List.length HX.out
        have h2 := HL.out
        simp at h1
        omega
      go_wp2_with (fail)
      have HOWN2 : Hid (Sb.Own 96 4 (fun k => w.heap.size ≤ k) wr.drew u3 us.length (List.flatMap p4 us)) := HOWN
      have HF2 : Hid (Fr (fun _ => False) w wr.drew) := Lib.hid HF.out.drew
      have HD3 : Hid (wr.drew.cell? ⟨nb, 3, none⟩ = some (.pointer (hd rest))) := Lib.hid d3
      clear d3
      go_region_law (refine step_append_Own rfl _ _ 101 rfl 96 (.agg #[.int .i64 0, .int .i64 0, .pointer none, .pointer none]) 4 32 Try.underlying101 infoP rfl (by decide) u3 _ _ rfl (HOWN2.out.alloc _) (.slice (some ⟨wr.drew.heap.size, 0, none⟩) 1 1) 1 (p4 ⟨nb, x.1, .int .i64 x.2⟩) rfl (src_p4 wr.drew _ _ _ rfl _) (by unfold maxLen; omega) (by omega) ?_; intro v3 w3 hv3 hf3 hn3 hd3; have d5 : w3.cell? ⟨nb, 3, none⟩ = some (.pointer (hd rest)) := cell_fr hf3 (cell_fr ((Fr.refl (fun _ => False) wr.drew).alloc _) HD3.out id) (fun hb => absurd (show w.heap.size ≤ nb from (HOWN2.out.block _ hb).1) (by omega)); have HV3 := Lib.hid hv3; have HF3 := Lib.hid hf3; clear hv3 hf3 hn3 hd3)
      all_goals
       (go_wp2_with (fail)
        go_roundw
        case rel =>
          refine ⟨us ++ [⟨nb, x.1, .int .i64 x.2⟩], rest, by simp, rfl, ?_, ?_⟩
          · have hv := HV3.out.mono (G := fun k => w.heap.size ≤ k) (fun k _ h => h.elim id (fun h => Nat.le_trans HF2.out.size (Nat.le_trans ((Fr.refl (fun _ => False) wr.drew).alloc _).size h)))
            simpa using hv
          · exact (HF2.out.alloc _).trans HF3.out (fun k hk he => absurd (show w.heap.size ≤ k from (HOWN2.out.block _ he).1) (by omega))
        case measure =>
          have h3 := lenV_own HV3.out
          have h0 := HLU.out
          simp at h3 ⊢
          omega)
    | nil =>
      simp only [hd] at hp
      subst hp
      rw [List.append_nil] at *
      have hlen : us.length = xs.length := by simpa using congrArg List.length HX.out
      have HJ0 := Lib.hid (HJ.out _ _ _ none H0.out (grown_of hf) (fun r e => by cases e))
      have hnul : us.length ≤ 4398046511104 := by have := HL.out; omega
      rcases hown.shape with ⟨rfl, hl0, _⟩ | ⟨gb, cap, rfl, hcap1, hcap2, hob⟩
      · have hx0 : xs = [] := List.eq_nil_of_length_eq_zero (by omega)
        subst hx0
        clear hown hlen
        go_wp2_with (fail)
        go_loopw [31] (fun i wq => i = .int .i64 0 ∧ wq = wr) (fun _ _ => 0)
        case atStart => exact ⟨rfl, rfl⟩
        case round =>
          obtain ⟨rfl, rfl⟩ := hrel
          go_wp2_with (fail)
          go_end0
          exact ⟨⟨_, rfl⟩, .inl ⟨_, rfl, HJ0.out⟩⟩
      · obtain ⟨cur, hgb, hcs, hcur⟩ := buf_cells hown
        have HGB := Lib.hid hgb
        have HCUR := Lib.hid hcur
        have HLEN := Lib.hid hlen
        have HCS := Lib.hid hcs
        clear hown hgb hcur hlen hcs
        go_wp2_with (fail)
        refine (wpIn_wide (n := 0)).1 ?_
        gi_loopw [31] (fun i wq => ItRel2 96 wr us.length xs J i wq) (fun i _ => us.length - (intOf i).toNat)
        case atStart => exact ⟨0, rfl, Nat.zero_le _, HJ0.out, .inl ⟨rfl, rfl⟩⟩
        case round =>
          rename World => wA
          obtain ⟨k, rfl, hk, hj, hkb⟩ := hrel
          by_cases hlt : k < us.length
          · obtain ⟨nd, hnd⟩ : ∃ nd, us[k]? = some nd := ⟨us[k], by rw [List.getElem?_eq_getElem]⟩
            have hxk : ∃ x, xs[k]? = some x ∧ nd.t = x.1 ∧ nd.v = .int .i64 x.2 := by
              have h1 := congrArg (fun l => l[k]?) HX.out
              simp only [List.getElem?_map, hnd, Option.map_some] at h1
              cases hxk : xs[k]? with
              | none => rw [hxk] at h1; cases h1
              | some x =>
                rw [hxk] at h1
                simp only [Option.map_some, Option.some.injEq] at h1
                exact ⟨x, rfl, congrArg Prod.fst h1, congrArg Prod.snd h1⟩
            obtain ⟨x, hx, ht, hv⟩ := hxk
            have hA : wA.heap[gb]? = some (.cells cur 96 (0, 0)) := by
              rcases hkb with ⟨_, rfl⟩ | ⟨h1, hkb⟩
              · exact HGB.out
              · exact hkb.2 _ _ HGB.out (by have := HCS.out; omega)
            have e0 : wA.cell? ⟨gb, k * 4, none⟩ = some (.int .i64 x.1) := by
              rw [cell_of hA]
              exact (HCUR.out k nd hnd 0 (by omega)).trans (by simp [p4, ht])
            have e1 : wA.cell? ⟨gb, k * 4 + 1, none⟩ = some (.int .i64 x.2) := by
              rw [cell_of hA, HCUR.out k nd hnd 1 (by omega)]
              simp [p4, hv]
            have e2 : wA.cell? ⟨gb, k * 4 + 2, none⟩ = some (.pointer none) := by
              rw [cell_of hA, HCUR.out k nd hnd 2 (by omega)]
              simp [p4]
            have e3 : wA.cell? ⟨gb, k * 4 + 3, none⟩ = some (.pointer none) := by
              rw [cell_of hA, HCUR.out k nd hnd 3 (by omega)]
              simp [p4]
            have HND := Lib.hid hnd
            have HXK := Lib.hid hx
            have HJK := Lib.hid hj
            have HKB := Lib.hid hkb
            clear hnd hx hj hkb ht hv hA
            have hjn := HJ.out _ _ _ none HJK.out (World.grownBy_alloc wA (.cells #[.int .i64 x.1, .int .i64 x.2, .pointer none, .pointer none] 96) none) (fun r e => by cases e)
            obtain ⟨fn, tmps, assign, body, hy, hR⟩ := HY.out _ x _ hjn (take_next HXK.out)
            clear hjn
            gi_wp2
            refine ⟨rfl, hR.mono ?_⟩
            rintro e W3 (⟨rfl, hJ3, hk3⟩ | ⟨rfl, hJx3⟩)
            · rw [take_snoc HXK.out] at hJ3
              have HJ3 := Lib.hid hJ3
              have HK3 := Lib.hid (KeepBuf.trans (KeepBuf.of_fr ((Fr.refl (fun _ => False) wA).alloc _) (fun _ _ h _ => h.elim)) hk3)
              clear hy hR hJ3 hk3
              gi_wp2
              go_roundw
              case rel =>
                refine ⟨k + 1, by simp, hlt, HJ3.out, .inr ⟨by omega, ?_⟩⟩
                rcases HKB.out with ⟨_, rfl⟩ | ⟨_, h⟩
                · exact HK3.out
                · exact h.trans HK3.out
              case measure => simp [intOf]; omega
            · have HX3 := Lib.hid hJx3
              clear hy hR hJx3
              gi_wp2
              refine bodyPost_ret (results_none rfl _ _ _) rfl ?_
              exact ⟨⟨_, rfl⟩, .inr ⟨_, by rw [take_snoc HXK.out]; exact List.take_prefix _ _, HX3.out⟩⟩
          · have hkn : k = us.length := by omega
            subst hkn
            rw [HLEN.out, List.take_length] at hj
            have HJE := Lib.hid hj
            clear hj hkb hlt
            gi_wp2
            go_end0
            exact ⟨⟨_, rfl⟩, .inl ⟨_, rfl, HJE.out⟩⟩

/-- What a range over the queue's iterator may count on. -/
theorem all_gives (F : Nat → Prop) (bq bm Bn : Nat) (g : Int) (w : World) (ls : List Nd) (xs : List (Int × Int)) (h : QRep 93 96 F w bq g ls bm) (hx : ls.map nv = xs.map (fun x => (x.1, .int .i64 x.2))) (hlen : xs.length ≤ 4398046511104)
    (hBn : w.cell? ⟨Bn, 0, none⟩ = some (.pointer (some ⟨bq, 0, none⟩))) :
    Gives Try.prog 43 #[.pointer (some ⟨Bn, 0, none⟩)] (fun x : Int × Int => #[.int .i64 x.1, .int .i64 x.2]) (KeepBuf 96) (fun pre x => pre ++ [x] <+: xs) (fun ys => ys = xs) (fun pre => pre <+: xs) w :=
  fun l J Jx W hW hJ _ hY h0 => all1_in F bq bm Bn l g W ls xs (h.of (fun k hk _ => hW.block k hk)) hx hlen J Jx hJ hY ((hW.cell (p := ⟨Bn, 0, none⟩) (World.block_lt_of_cell? w _ hBn)).trans hBn) h0

end Go.Proofs.Ytolonoabipnpfaa.QI
