/- HeapScript walked: it answers true. -/
import Derived.Test.YtikimfdijkejpaaHpStands
import Derived.Test.YtikimfdijkejpaaHpShown
import Derived.Test.YtikimfdijkejpaaHpActs
namespace Go.Proofs.Ytikimfdijkejpaa.HT
open Go.RowKit Go.Sb

theorem run_equalIn_nil_nil {P : Program} {t : TypeId} {ps rs : Array TypeId} {b : Bool} (h : P.underlying t = some (.func ps rs b)) (d : Nat) (w : World) :
    (Op.equalIn (d + 1) t .nilFunc .nilFunc).run P w = .ok true w := by simp [Op.equalIn, run_underlying h]
theorem run_equal_nil_nil {P : Program} {t : TypeId} {ps rs : Array TypeId} {b : Bool} (h : P.underlying t = some (.func ps rs b)) (w : World) :
    (Op.equal t .nilFunc .nilFunc).run P w = .ok true w := run_equalIn_nil_nil h 9999 w
theorem run_eql_nil_nil {P : Program} {t : TypeId} {ps rs : Array TypeId} {b : Bool} (h : P.underlying t = some (.func ps rs b)) (w : World) :
    (binOp .eql t .nilFunc .nilFunc).run P w = .ok (.bool true) w := by
  simp only [binOp]
  simp [run_equal_nil_nil h]
theorem nil_nil (w : World) : (binOp .eql 53 .nilFunc .nilFunc).run Try.prog w = .ok (.bool true) w := run_eql_nil_nil Try.underlying53 w

set_option maxRecDepth 100000 in
theorem new_nil (w : World) : Calls Try.prog 22 #[.nilFunc] w fun e w' => e = .returned (.pointer none) ∧ w = w' := by
  have hnn := nil_nil
  go_enter Try.func22, Try.ntmps22
  go_wp2_with (fail)
  go_ret
  exact ⟨rfl, rfl⟩

/-- a pair joins, laid since w -/
theorem Bank.join {w0 w b : World} {P : List Pr} {N : Int} {p : Pr} (h : Bank w0 w P N) (hb : Bank w0 b P N) (hp : PRep b p) (hg : p.g ≤ N) (hn : ∀ k, p.foot k → w.heap.size ≤ k) (h0 : w0.heap.size ≤ w.heap.size) : Bank w0 b (P ++ [p]) N := by
  have hget : ∀ (j : Nat) q, (P ++ [p])[j]? = some q → P[j]? = some q ∨ (j = P.length ∧ q = p) := fun j q hq => by
    rw [List.getElem?_append] at hq
    split at hq
    · exact .inl hq
    · rw [List.getElem?_singleton] at hq
      split at hq
      · exact .inr ⟨by omega, (Option.some.inj hq).symm⟩
      · cases hq
  refine ⟨fun j q hq => ?_, fun j q hq => ?_, fun j q hq => ?_, fun j l q r hq hr hjl k hk hk' => ?_⟩
  · rcases hget j q hq with hq' | ⟨rfl, rfl⟩
    · exact hb.rep j q hq'
    · exact hp
  · rcases hget j q hq with hq' | ⟨rfl, rfl⟩
    · exact hb.le j q hq'
    · exact hg
  · rcases hget j q hq with hq' | ⟨rfl, rfl⟩
    · exact hb.ge j q hq'
    · intro k hk
      exact Nat.le_trans h0 (hn k hk)
  · rcases hget j q hq with hq' | ⟨rfl, rfl⟩
    · rcases hget l r hr with hr' | ⟨rfl, rfl⟩
      · exact hb.dj j l q r hq' hr' hjl k hk hk'
      · have := (h.rep j q hq').lt k hk
        have := hn k hk'
        omega
    · rcases hget l r hr with hr' | ⟨rfl, rfl⟩
      · have := (h.rep l r hr').lt k hk'
        have := hn k hk
        omega
      · exact hjl rfl

/-- one heap more, on the lists too -/
theorem Desk.joined {w0 w b : World} {bd : Nat} {P : List Pr} {N : Int} {av bv vo vw av' bv' : Value} {ks : List (Nat × Nat)} {E : List Ent} {fr : Nat} {G : Nat → Prop} {p : Pr} (h : Desk w0 w bd P N av bv vo vw ks E fr) (hf : Fr G w b) (hG : ∀ k, G k → k = bd ∨ av.ownBlock = some k ∨ bv.ownBlock = some k)
    (hh : b.heap[bd]? = some (.cells #[av', bv', vo, vw, .int .i64 (fr : Int)] 71 (0, 0))) (hal : Own 49 1 (fun k => w0.heap.size ≤ k) b av' (ks.length + 1) (ks.map pa ++ [.pointer (some ⟨p.bh, 0, none⟩)])) (hbl : Own 73 1 (fun k => w0.heap.size ≤ k) b bv' (ks.length + 1) (ks.map pb ++ [.pointer (some ⟨p.br, 0, none⟩)])) (h4 : ks.length < 4)
    (hp : PRep b p) (hg : p.g ≤ N) (hn : ∀ k, p.foot k → w.heap.size ≤ k) : Desk w0 b bd (P ++ [p]) N av' bv' vo vw (ks ++ [key p]) E fr := by
  have hhd : w.heap[bd]? = some (.cells #[av, bv, vo, vw, .int .i64 (fr : Int)] 71 (0, 0)) := h.held.rows.head
  have gk : ∀ k, G k → ∃ cs T, w.heap[k]? = some (.cells cs T (0, 0)) ∧ (T = 71 ∨ T = 49 ∨ T = 73) := fun k hk => by
    rcases hG k hk with rfl | hk | hk
    · exact ⟨_, 71, hhd, .inl rfl⟩
    · obtain ⟨cs, hc⟩ := own_kind h.al hk
      exact ⟨cs, 49, hc, .inr (.inl rfl)⟩
    · obtain ⟨cs, hc⟩ := own_kind h.bl hk
      exact ⟨cs, 73, hc, .inr (.inr rfl)⟩
  have ne : ∀ {T : TypeId} {k : Nat} {cs : Array Value}, w.heap[k]? = some (.cells cs T (0, 0)) → T ≠ 71 → T ≠ 49 → T ≠ 73 → ¬ G k := fun hc h1 h2 h3 hk => by
    obtain ⟨cs', T', hc', hT⟩ := gk _ hk
    rcases hT with rfl | rfl | rfl
    · exact ne_of_types hc hc' h1 rfl
    · exact ne_of_types hc hc' h2 rfl
    · exact ne_of_types hc hc' h3 rfl
  have hbank : Bank w0 b P N := h.bank.fr hf (fun i p hi k hk hk' => by
    obtain ⟨cs, T, hc, hT⟩ := gk k hk'
    rcases hT with rfl | rfl | rfl <;> exact (h.bank.rep i p hi).not hc (by decide) (by decide) (by decide) (by decide) hk) (Int.le_refl N)
  refine ⟨h.bank.join hbank hp hg hn h.frm.size, ⟨⟨hh, .inl (.inl rfl), h.held.rows.outs.of (fun k hk hb => ?_), h.held.rows.wants.of (fun k hk hb => ?_), h.held.rows.apart⟩, h.held.pile.of (fun k cs _ hc => hf.block k (lt_of_heap hc) (ne hc (by decide) (by decide) (by decide)))⟩, h.ge, ?_, ?_, by simp; omega, ?_, h.frm.trans hf (fun k hk hg => ?_), h.lim, h.fle, h.pot⟩
  · obtain ⟨cs, hc⟩ := own_kind h.held.rows.outs hb
    exact hf.block k hk (ne hc (by decide) (by decide) (by decide))
  · obtain ⟨cs, hc⟩ := own_kind h.held.rows.wants hb
    exact hf.block k hk (ne hc (by decide) (by decide) (by decide))
  · rw [List.length_append, List.map_append]
    exact hal
  · rw [List.length_append, List.map_append]
    exact hbl
  · intro x hx
    rw [List.map_append]
    rcases List.mem_append.1 hx with hx | hx
    · exact List.mem_append_left _ (h.ks_in x hx)
    · exact List.mem_append_right _ (by simpa using hx)
  · rcases hG k hg with rfl | hk' | hk'
    · have := h.ge k (.inl (.inl rfl)); omega
    · have := (h.al.block k hk').1; omega
    · have := (h.bl.block k hk').1; omega

/-- The first loop: so many heaps stand. -/
def ScRel1 (w : World) (bd : Nat) (i : Value) (wr : World) : Prop :=
  ∃ (P : List Pr) (av bv : Value) (ks : List (Nat × Nat)), i = .int .i64 (ks.length : Int) ∧ ks.length ≤ 3 ∧ Desk w wr bd P 0 av bv (.slice none 0 0) (.slice none 0 0) ks [] 0
/-- The script's loop. -/
def ScRel2 (w : World) (bd ln : Nat) (i : Value) (wr : World) : Prop :=
  ∃ (k : Nat) (P : List Pr) (av bv vo vw : Value) (ks : List (Nat × Nat)) (E : List Ent) (fr : Nat), i = .int .i64 (k : Int) ∧ k ≤ ln ∧ Desk w wr bd P k av bv vo vw ks E fr ∧ 1 ≤ ks.length

set_option maxRecDepth 100000 in
set_option maxHeartbeats 8000000 in
theorem script_any (la : Option Addr) (lb lo ln lc : Nat) (th : Nat → Int × Int × Int × (Int × Int)) (w : World) (hlm : ln ≤ 3518437208832) (hcell : ActsAt w la lb lo ln th) :
    Calls Try.prog 6 #[.slice la ln lc] w fun e w' => e = .returned (.bool true) ∧ Fr (fun _ => False) w w' := by
  have HLA := Lib.hid hcell.1
  have HC := Lib.hid hcell.2
  clear hcell
  go_enter Try.func6, Try.ntmps6
  go_wp2_with (fail)
  refine (shown_any _).mono ?_
  rintro e w1 ⟨rfl, hf1⟩
  have HF1 := Lib.hid hf1
  have hs1 := hf1.size
  clear hf1
  go_wp2_with (fail)
  refine (new_nil _).mono ?_
  rintro e w2 ⟨rfl, rfl⟩
  go_wp2_with (fail)
  have hdesk : Desk w (w1.alloc (.cells #[.slice none 0 0, .slice none 0 0, .slice none 0 0, .slice none 0 0, .int .i64 0] 71)) w1.heap.size [] 0 (.slice none 0 0) (.slice none 0 0) (.slice none 0 0) (.slice none 0 0) [] [] 0 :=
    ⟨Bank.nil _ _ _, ⟨⟨heap_alloc_eq _ _, .inl (.inl rfl), Own.nil _ _ _ _, Own.nil _ _ _ _, fun k h => by cases h⟩, Pile.nil _ _ _ _⟩, by
      rintro k ((rfl | hk | hk) | ⟨j, e, he, _⟩)
      · exact hs1
      · cases hk
      · cases hk
      · simp at he, Own.nil _ _ _ _, Own.nil _ _ _ _, by simp, by simp, HF1.out.alloc _, fun j e he => by simp at he, by simp, by simp⟩
  have HDK := Lib.hid hdesk
  clear hdesk
  generalize hw2 : w1.alloc (.cells #[.slice none 0 0, .slice none 0 0, .slice none 0 0, .slice none 0 0, .int .i64 0] 71) = w2 at *
  generalize hbd : w1.heap.size = bd at *
  clear hw2
  go_loopw [15] (fun i wr => ScRel1 w bd i wr) (fun i _ => 3 - (intOf i).toNat)
  case atStart => exact ⟨[], _, _, [], rfl, by simp, HDK.out⟩
  case round =>
    obtain ⟨P, av, bv, ks, rfl, hk3, hd⟩ := hrel
    have HD := Lib.hid hd
    clear hd
    by_cases hlt : ks.length < 3
    · have hway : (ks.length : Int) = 0 ∨ (ks.length : Int) = 1 ∨ (ks.length : Int) = 2 := by omega
      have HW := Lib.hid hway
      clear hway
      have hhd : wr.heap[bd]? = some (.cells #[av, bv, .slice none 0 0, .slice none 0 0, .int .i64 0] 71 (0, 0)) := HD.out.held.rows.head
      have c0 : wr.cell? ⟨bd, 0, none⟩ = some av := cell_is hhd 0 rfl
      have HH := Lib.hid hhd
      have hbl := lt_of_heap hhd
      clear hhd
      -- (region 7)
      go_upto_region 7 with fail
      go_cut [26] (fun s26 wx => ∃ (bh bm : Nat) (av5 : Value), s26 = av5 ∧ wx.heap[bd]? = some (.cells #[av5, bv, .slice none 0 0, .slice none 0 0, .int .i64 0] 71 (0, 0)) ∧ Own 49 1 (fun k => w.heap.size ≤ k) wx av5 (ks.length + 1) (ks.map pa ++ [.pointer (some ⟨bh, 0, none⟩)]) ∧
        HRep 99 101 3 (fun k => wr.heap.size ≤ k) wx bh (.func (.func (wFid (ks.length : Int))) #[] #[]) 0 (([] : List (Int × (Int × Int))).map en) (.slice none 0 0) bm [] ∧ Fr (fun k => k = bd ∨ av.ownBlock = some k) wr wx)
      case first =>
        refine wp_region_held_drew (S := fun _ => True) (by kernel_rfl) trivial (fun hT => ?_)
        refine wpAnyH_take (i := 0) (v := (.pointer (some ⟨bd, 0, none⟩))) rfl (by kernel_rfl) (by kernel_rfl) (by kernel_rfl) (fun _ _ _ h => h) (Or.inl ⟨by rfl, fun w' hS => by go_simp⟩) hT ?_
        try simp only [Act.put, List.getElem_toArray, List.getElem_cons_zero, List.setIfInBounds_toArray, List.set_cons_zero, List.set_cons_succ]
        refine wpAnyH_take (i := 1) (v := (.pointer (some ⟨bd, 0, none⟩))) rfl (by kernel_rfl) (by kernel_rfl) (by kernel_rfl) (fun _ _ _ h => h) (Or.inl ⟨by rfl, fun w' hS => by go_simp⟩) hT ?_
        try simp only [Act.put, List.getElem_toArray, List.getElem_cons_zero, List.getElem_cons_succ, List.setIfInBounds_toArray, List.set_cons_zero, List.set_cons_succ]
        refine wpAnyH_take (i := 2) (v := (.pointer (some ⟨bd, 0, none⟩))) rfl (by kernel_rfl) (by kernel_rfl) (by kernel_rfl) (fun _ _ _ h => h) (Or.inl ⟨by rfl, fun w' hS => by go_simp⟩) hT ?_
        try simp only [Act.put, List.getElem_toArray, List.getElem_cons_zero, List.getElem_cons_succ, List.setIfInBounds_toArray, List.set_cons_zero, List.set_cons_succ]
        refine wpAnyH_take (i := 3) (v := (.pointer (some ⟨bd, 0, none⟩))) rfl (by kernel_rfl) (by kernel_rfl) (by kernel_rfl) (fun _ _ _ h => h) (Or.inl ⟨by rfl, fun w' hS => by go_simp⟩) hT ?_
        try simp only [Act.put, List.getElem_toArray, List.getElem_cons_zero, List.getElem_cons_succ, List.setIfInBounds_toArray, List.set_cons_zero, List.set_cons_succ]
        refine wpAnyH_take (i := 5) (v := (.int .i64 (ks.length : Int))) rfl (by kernel_rfl) (by kernel_rfl) (by kernel_rfl) (fun _ _ _ h => h) (Or.inl ⟨by rfl, fun w' hS => by go_simp⟩) hT ?_
        try simp only [Act.put, List.getElem_toArray, List.getElem_cons_zero, List.getElem_cons_succ, List.setIfInBounds_toArray, List.set_cons_zero, List.set_cons_succ]
        refine wpAnyH_ready (rs := [4, 6]) (by kernel_rfl) (by simp) ?_
        refine AllReadyH.cons rfl (fun K hK => ?_) (AllReadyH.cons rfl (fun K hK => ?_) AllReadyH.nil)
        · rw [if_pos (by rfl)]
          go_simp
          refine hK.out _ _ trivial (fun _ => ?_)
          clear hK K
          try simp only [Act.put, List.getElem_toArray, List.getElem_cons_zero, List.getElem_cons_succ, List.setIfInBounds_toArray, List.set_cons_zero, List.set_cons_succ]
          refine wpAnyH_ready (rs := [6]) (by kernel_rfl) (by simp) ?_
          refine AllReadyH.cons rfl (fun K hK => ?_) AllReadyH.nil
          rw [if_pos (by rfl)]
          go_simp
          refine (made_any (ks.length : Int) _ HW.out).mono ?_
          rintro e w3 ⟨bh, bm, rfl, hq3, hf3⟩
          have hf3' : Fr (fun _ => False) wr w3 := by first | exact ((Fr.refl (fun _ => False) wr).drew).trans hf3 (fun _ _ h => h) | exact (((Fr.refl (fun _ => False) wr).drew).drew).trans hf3 (fun _ _ h => h)
          have HQ3 : Hid (HRep 99 101 3 (fun k => wr.heap.size ≤ k) w3 bh (.func (.func (wFid (ks.length : Int))) #[] #[]) 0 (([] : List (Int × (Int × Int))).map en) (.slice none 0 0) bm []) := Lib.hid hq3
          have HF3 := Lib.hid hf3'
          have HA3 := Lib.hid (HD.out.al.fr hf3' (fun _ _ _ h => h))
          have HH3 := Lib.hid (hf3'.get HH.out id)
          have c3 : w3.cell? ⟨bd, 0, none⟩ = some av := cell_is HH3.out 0 rfl
          have hl3 : bd < w3.heap.size := lt_of_heap HH3.out
          clear hq3 hf3 hf3'
          refine hK.out _ _ trivial (fun _ => ?_)
          clear hK K
          try simp only [Act.put, List.getElem_toArray, List.getElem_cons_zero, List.getElem_cons_succ, List.setIfInBounds_toArray, List.set_cons_zero, List.set_cons_succ]
          refine wpAnyH_ready (rs := [7]) (by kernel_rfl) (by simp) ?_
          refine AllReadyH.cons rfl (fun K hK => ?_) AllReadyH.nil
          rw [if_pos (by rfl)]
          go_simp
          refine hK.out _ _ trivial (fun _ => ?_)
          clear hK K
          try simp only [Act.put, List.getElem_toArray, List.getElem_cons_zero, List.getElem_cons_succ, List.setIfInBounds_toArray, List.set_cons_zero, List.set_cons_succ]
          refine wpAnyH_ready (rs := [8]) (by kernel_rfl) (by simp) ?_
          refine AllReadyH.cons rfl (fun K hK => ?_) AllReadyH.nil
          have hap : ∃ W4, W4 = (w3.alloc (.cells #[.pointer (some ⟨bh, 0, none⟩)] 49)) := ⟨_, rfl⟩
          refine step_append_Own rfl _ _ 65 rfl 49 (.pointer none) 1 8 Try.underlying65 infoA rfl (by decide) av ks.length (ks.map pa) rfl (by first | exact HA3.out.alloc _ | exact (HA3.out.alloc _).drew | exact HA3.out.drew.alloc _) (.slice (some ⟨w3.heap.size, 0, none⟩) 1 1) 1 [.pointer (some ⟨bh, 0, none⟩)] rfl (by exact src_val w3 (.pointer (some ⟨bh, 0, none⟩)) 49 rfl) (by unfold maxLen; omega) (by omega) ?_
          intro v5 w5 hv5 hf5 hn5 hd5
          have hno5 := Go.Sb.own_ne HH3.out (by decide) HA3.out
          have hv5' : Own 49 1 (ex (fun k => w.heap.size ≤ k) (w3.alloc (.cells #[.pointer (some ⟨bh, 0, none⟩)] 49))) w5 v5 (ks.length + 1) (ks.map pa ++ [.pointer (some ⟨bh, 0, none⟩)]) := hv5
          have hf5' : Fr (fun k => av.ownBlock = some k) (w3.alloc (.cells #[.pointer (some ⟨bh, 0, none⟩)] 49)) w5 := ⟨hf5.os, hf5.tape, hf5.output, hf5.size, hf5.block⟩
          have hd5' : v5.ownBlock = av.ownBlock ∨ (Fr (fun _ => False) (w3.alloc (.cells #[.pointer (some ⟨bh, 0, none⟩)] 49)) w5 ∧ v5.ownBlock = some (w3.alloc (.cells #[.pointer (some ⟨bh, 0, none⟩)] 49)).heap.size) := hd5.imp id (fun h => ⟨⟨h.1.os, h.1.tape, h.1.output, h.1.size, h.1.block⟩, h.2⟩)
          have hh5 := hf5'.get ((heap_alloc_lt _ _ _ (lt_of_heap HH3.out)).trans HH3.out) hno5
          have hc5 : w5.cell? ⟨bd, 0, none⟩ = some av := cell_is hh5 0 rfl
          have hz5 := frozen_of hh5 0
          obtain ⟨g5, k5, rfl, _, _⟩ := hv5'.some (by omega)
          have HXX := Lib.hid (row_grown (j := 0) HH3.out (by decide) HA3.out (Own.nil 49 1 (fun k => w.heap.size ≤ k) w3) (fun k _ h2 => by cases h2) (fun k hk => Nat.le_trans HD.out.frm.size (Nat.le_trans HF3.out.size hk)) hv5' hf5' hd5')
          clear hv5 hf5 hn5 hd5 hno5 hh5 hv5' hf5' hd5' hap
          refine hK.out _ _ trivial (fun _ => ?_)
          clear hK K
          try simp only [Act.put, List.getElem_toArray, List.getElem_cons_zero, List.getElem_cons_succ, List.setIfInBounds_toArray, List.set_cons_zero, List.set_cons_succ]
          refine wpAnyH_take (i := 9) (v := (.pointer (some ⟨bd, 0, none⟩))) rfl (by kernel_rfl) (by kernel_rfl) (by kernel_rfl) (fun _ _ _ h => h) (Or.inl ⟨by rfl, fun w' hS => by go_simp⟩) hT ?_
          try simp only [Act.put, List.getElem_toArray, List.getElem_cons_zero, List.getElem_cons_succ, List.setIfInBounds_toArray, List.set_cons_zero, List.set_cons_succ]
          refine wpAnyH_take (i := 10) (v := (.pointer (some ⟨bd, 0, none⟩))) rfl (by kernel_rfl) (by kernel_rfl) (by kernel_rfl) (fun _ _ _ h => h) (Or.inl ⟨by rfl, fun w' hS => by go_simp⟩) hT ?_
          try simp only [Act.put, List.getElem_toArray, List.getElem_cons_zero, List.getElem_cons_succ, List.setIfInBounds_toArray, List.set_cons_zero, List.set_cons_succ]
          refine wpAnyH_ready (rs := [11]) (by kernel_rfl) (by simp) ?_
          refine AllReadyH.cons rfl (fun K hK => ?_) AllReadyH.nil
          rw [if_pos (by rfl)]
          go_simp
          refine hK.out _ _ trivial (fun _ => ?_)
          clear hK K
          try simp only [Act.put, List.getElem_toArray, List.getElem_cons_zero, List.getElem_cons_succ, List.setIfInBounds_toArray, List.set_cons_zero, List.set_cons_succ]
          refine wpAnyH_done (by kernel_rfl) ?_ _
          go_wp2_with (fail)
          go_meet
          obtain ⟨x1, x2, _, _, x5⟩ := HXX.out
          refine ⟨bh, bm, .slice (some ⟨g5, 0, none⟩) (ks.length + 1) k5, rfl, x1, x2, HQ3.out.fr x5 (fun k _ hk hg => ?_), (HF3.out.mono (fun _ _ h => h.elim)).trans x5 (fun k _ hk => hk)⟩
          have hk' : wr.heap.size ≤ k := hk
          rcases hg with rfl | hg
          · omega
          · have := (HD.out.al.block k hg).2
            omega
        · rw [if_pos (by rfl)]
          go_simp
          refine (made_any (ks.length : Int) _ HW.out).mono ?_
          rintro e w3 ⟨bh, bm, rfl, hq3, hf3⟩
          have hf3' : Fr (fun _ => False) wr w3 := by first | exact ((Fr.refl (fun _ => False) wr).drew).trans hf3 (fun _ _ h => h) | exact (((Fr.refl (fun _ => False) wr).drew).drew).trans hf3 (fun _ _ h => h)
          have HQ3 : Hid (HRep 99 101 3 (fun k => wr.heap.size ≤ k) w3 bh (.func (.func (wFid (ks.length : Int))) #[] #[]) 0 (([] : List (Int × (Int × Int))).map en) (.slice none 0 0) bm []) := Lib.hid hq3
          have HF3 := Lib.hid hf3'
          have HA3 := Lib.hid (HD.out.al.fr hf3' (fun _ _ _ h => h))
          have HH3 := Lib.hid (hf3'.get HH.out id)
          have c3 : w3.cell? ⟨bd, 0, none⟩ = some av := cell_is HH3.out 0 rfl
          have hl3 : bd < w3.heap.size := lt_of_heap HH3.out
          clear hq3 hf3 hf3'
          refine hK.out _ _ trivial (fun _ => ?_)
          clear hK K
          try simp only [Act.put, List.getElem_toArray, List.getElem_cons_zero, List.getElem_cons_succ, List.setIfInBounds_toArray, List.set_cons_zero, List.set_cons_succ]
          refine wpAnyH_ready (rs := [4, 7]) (by kernel_rfl) (by simp) ?_
          refine AllReadyH.cons rfl (fun K hK => ?_) (AllReadyH.cons rfl (fun K hK => ?_) AllReadyH.nil)
          · rw [if_pos (by rfl)]
            go_simp
            refine hK.out _ _ trivial (fun _ => ?_)
            clear hK K
            try simp only [Act.put, List.getElem_toArray, List.getElem_cons_zero, List.getElem_cons_succ, List.setIfInBounds_toArray, List.set_cons_zero, List.set_cons_succ]
            refine wpAnyH_ready (rs := [7]) (by kernel_rfl) (by simp) ?_
            refine AllReadyH.cons rfl (fun K hK => ?_) AllReadyH.nil
            rw [if_pos (by rfl)]
            go_simp
            refine hK.out _ _ trivial (fun _ => ?_)
            clear hK K
            try simp only [Act.put, List.getElem_toArray, List.getElem_cons_zero, List.getElem_cons_succ, List.setIfInBounds_toArray, List.set_cons_zero, List.set_cons_succ]
            refine wpAnyH_ready (rs := [8]) (by kernel_rfl) (by simp) ?_
            refine AllReadyH.cons rfl (fun K hK => ?_) AllReadyH.nil
            have hap : ∃ W4, W4 = (w3.alloc (.cells #[.pointer (some ⟨bh, 0, none⟩)] 49)) := ⟨_, rfl⟩
            refine step_append_Own rfl _ _ 65 rfl 49 (.pointer none) 1 8 Try.underlying65 infoA rfl (by decide) av ks.length (ks.map pa) rfl (by first | exact HA3.out.alloc _ | exact (HA3.out.alloc _).drew | exact HA3.out.drew.alloc _) (.slice (some ⟨w3.heap.size, 0, none⟩) 1 1) 1 [.pointer (some ⟨bh, 0, none⟩)] rfl (by exact src_val w3 (.pointer (some ⟨bh, 0, none⟩)) 49 rfl) (by unfold maxLen; omega) (by omega) ?_
            intro v5 w5 hv5 hf5 hn5 hd5
            have hno5 := Go.Sb.own_ne HH3.out (by decide) HA3.out
            have hv5' : Own 49 1 (ex (fun k => w.heap.size ≤ k) (w3.alloc (.cells #[.pointer (some ⟨bh, 0, none⟩)] 49))) w5 v5 (ks.length + 1) (ks.map pa ++ [.pointer (some ⟨bh, 0, none⟩)]) := hv5
            have hf5' : Fr (fun k => av.ownBlock = some k) (w3.alloc (.cells #[.pointer (some ⟨bh, 0, none⟩)] 49)) w5 := ⟨hf5.os, hf5.tape, hf5.output, hf5.size, hf5.block⟩
            have hd5' : v5.ownBlock = av.ownBlock ∨ (Fr (fun _ => False) (w3.alloc (.cells #[.pointer (some ⟨bh, 0, none⟩)] 49)) w5 ∧ v5.ownBlock = some (w3.alloc (.cells #[.pointer (some ⟨bh, 0, none⟩)] 49)).heap.size) := hd5.imp id (fun h => ⟨⟨h.1.os, h.1.tape, h.1.output, h.1.size, h.1.block⟩, h.2⟩)
            have hh5 := hf5'.get ((heap_alloc_lt _ _ _ (lt_of_heap HH3.out)).trans HH3.out) hno5
            have hc5 : w5.cell? ⟨bd, 0, none⟩ = some av := cell_is hh5 0 rfl
            have hz5 := frozen_of hh5 0
            obtain ⟨g5, k5, rfl, _, _⟩ := hv5'.some (by omega)
            have HXX := Lib.hid (row_grown (j := 0) HH3.out (by decide) HA3.out (Own.nil 49 1 (fun k => w.heap.size ≤ k) w3) (fun k _ h2 => by cases h2) (fun k hk => Nat.le_trans HD.out.frm.size (Nat.le_trans HF3.out.size hk)) hv5' hf5' hd5')
            clear hv5 hf5 hn5 hd5 hno5 hh5 hv5' hf5' hd5' hap
            refine hK.out _ _ trivial (fun _ => ?_)
            clear hK K
            try simp only [Act.put, List.getElem_toArray, List.getElem_cons_zero, List.getElem_cons_succ, List.setIfInBounds_toArray, List.set_cons_zero, List.set_cons_succ]
            refine wpAnyH_take (i := 9) (v := (.pointer (some ⟨bd, 0, none⟩))) rfl (by kernel_rfl) (by kernel_rfl) (by kernel_rfl) (fun _ _ _ h => h) (Or.inl ⟨by rfl, fun w' hS => by go_simp⟩) hT ?_
            try simp only [Act.put, List.getElem_toArray, List.getElem_cons_zero, List.getElem_cons_succ, List.setIfInBounds_toArray, List.set_cons_zero, List.set_cons_succ]
            refine wpAnyH_take (i := 10) (v := (.pointer (some ⟨bd, 0, none⟩))) rfl (by kernel_rfl) (by kernel_rfl) (by kernel_rfl) (fun _ _ _ h => h) (Or.inl ⟨by rfl, fun w' hS => by go_simp⟩) hT ?_
            try simp only [Act.put, List.getElem_toArray, List.getElem_cons_zero, List.getElem_cons_succ, List.setIfInBounds_toArray, List.set_cons_zero, List.set_cons_succ]
            refine wpAnyH_ready (rs := [11]) (by kernel_rfl) (by simp) ?_
            refine AllReadyH.cons rfl (fun K hK => ?_) AllReadyH.nil
            rw [if_pos (by rfl)]
            go_simp
            refine hK.out _ _ trivial (fun _ => ?_)
            clear hK K
            try simp only [Act.put, List.getElem_toArray, List.getElem_cons_zero, List.getElem_cons_succ, List.setIfInBounds_toArray, List.set_cons_zero, List.set_cons_succ]
            refine wpAnyH_done (by kernel_rfl) ?_ _
            go_wp2_with (fail)
            go_meet
            obtain ⟨x1, x2, _, _, x5⟩ := HXX.out
            refine ⟨bh, bm, .slice (some ⟨g5, 0, none⟩) (ks.length + 1) k5, rfl, x1, x2, HQ3.out.fr x5 (fun k _ hk hg => ?_), (HF3.out.mono (fun _ _ h => h.elim)).trans x5 (fun k _ hk => hk)⟩
            have hk' : wr.heap.size ≤ k := hk
            rcases hg with rfl | hg
            · omega
            · have := (HD.out.al.block k hg).2
              omega
          · rw [if_pos (by rfl)]
            go_simp
            refine hK.out _ _ trivial (fun _ => ?_)
            clear hK K
            try simp only [Act.put, List.getElem_toArray, List.getElem_cons_zero, List.getElem_cons_succ, List.setIfInBounds_toArray, List.set_cons_zero, List.set_cons_succ]
            refine wpAnyH_ready (rs := [4]) (by kernel_rfl) (by simp) ?_
            refine AllReadyH.cons rfl (fun K hK => ?_) AllReadyH.nil
            rw [if_pos (by rfl)]
            go_simp
            refine hK.out _ _ trivial (fun _ => ?_)
            clear hK K
            try simp only [Act.put, List.getElem_toArray, List.getElem_cons_zero, List.getElem_cons_succ, List.setIfInBounds_toArray, List.set_cons_zero, List.set_cons_succ]
            refine wpAnyH_ready (rs := [8]) (by kernel_rfl) (by simp) ?_
            refine AllReadyH.cons rfl (fun K hK => ?_) AllReadyH.nil
            have hap : ∃ W4, W4 = (w3.alloc (.cells #[.pointer (some ⟨bh, 0, none⟩)] 49)) := ⟨_, rfl⟩
            refine step_append_Own rfl _ _ 65 rfl 49 (.pointer none) 1 8 Try.underlying65 infoA rfl (by decide) av ks.length (ks.map pa) rfl (by first | exact HA3.out.alloc _ | exact (HA3.out.alloc _).drew | exact HA3.out.drew.alloc _) (.slice (some ⟨w3.heap.size, 0, none⟩) 1 1) 1 [.pointer (some ⟨bh, 0, none⟩)] rfl (by exact src_val w3 (.pointer (some ⟨bh, 0, none⟩)) 49 rfl) (by unfold maxLen; omega) (by omega) ?_
            intro v5 w5 hv5 hf5 hn5 hd5
            have hno5 := Go.Sb.own_ne HH3.out (by decide) HA3.out
            have hv5' : Own 49 1 (ex (fun k => w.heap.size ≤ k) (w3.alloc (.cells #[.pointer (some ⟨bh, 0, none⟩)] 49))) w5 v5 (ks.length + 1) (ks.map pa ++ [.pointer (some ⟨bh, 0, none⟩)]) := hv5
            have hf5' : Fr (fun k => av.ownBlock = some k) (w3.alloc (.cells #[.pointer (some ⟨bh, 0, none⟩)] 49)) w5 := ⟨hf5.os, hf5.tape, hf5.output, hf5.size, hf5.block⟩
            have hd5' : v5.ownBlock = av.ownBlock ∨ (Fr (fun _ => False) (w3.alloc (.cells #[.pointer (some ⟨bh, 0, none⟩)] 49)) w5 ∧ v5.ownBlock = some (w3.alloc (.cells #[.pointer (some ⟨bh, 0, none⟩)] 49)).heap.size) := hd5.imp id (fun h => ⟨⟨h.1.os, h.1.tape, h.1.output, h.1.size, h.1.block⟩, h.2⟩)
            have hh5 := hf5'.get ((heap_alloc_lt _ _ _ (lt_of_heap HH3.out)).trans HH3.out) hno5
            have hc5 : w5.cell? ⟨bd, 0, none⟩ = some av := cell_is hh5 0 rfl
            have hz5 := frozen_of hh5 0
            obtain ⟨g5, k5, rfl, _, _⟩ := hv5'.some (by omega)
            have HXX := Lib.hid (row_grown (j := 0) HH3.out (by decide) HA3.out (Own.nil 49 1 (fun k => w.heap.size ≤ k) w3) (fun k _ h2 => by cases h2) (fun k hk => Nat.le_trans HD.out.frm.size (Nat.le_trans HF3.out.size hk)) hv5' hf5' hd5')
            clear hv5 hf5 hn5 hd5 hno5 hh5 hv5' hf5' hd5' hap
            refine hK.out _ _ trivial (fun _ => ?_)
            clear hK K
            try simp only [Act.put, List.getElem_toArray, List.getElem_cons_zero, List.getElem_cons_succ, List.setIfInBounds_toArray, List.set_cons_zero, List.set_cons_succ]
            refine wpAnyH_take (i := 9) (v := (.pointer (some ⟨bd, 0, none⟩))) rfl (by kernel_rfl) (by kernel_rfl) (by kernel_rfl) (fun _ _ _ h => h) (Or.inl ⟨by rfl, fun w' hS => by go_simp⟩) hT ?_
            try simp only [Act.put, List.getElem_toArray, List.getElem_cons_zero, List.getElem_cons_succ, List.setIfInBounds_toArray, List.set_cons_zero, List.set_cons_succ]
            refine wpAnyH_take (i := 10) (v := (.pointer (some ⟨bd, 0, none⟩))) rfl (by kernel_rfl) (by kernel_rfl) (by kernel_rfl) (fun _ _ _ h => h) (Or.inl ⟨by rfl, fun w' hS => by go_simp⟩) hT ?_
            try simp only [Act.put, List.getElem_toArray, List.getElem_cons_zero, List.getElem_cons_succ, List.setIfInBounds_toArray, List.set_cons_zero, List.set_cons_succ]
            refine wpAnyH_ready (rs := [11]) (by kernel_rfl) (by simp) ?_
            refine AllReadyH.cons rfl (fun K hK => ?_) AllReadyH.nil
            rw [if_pos (by rfl)]
            go_simp
            refine hK.out _ _ trivial (fun _ => ?_)
            clear hK K
            try simp only [Act.put, List.getElem_toArray, List.getElem_cons_zero, List.getElem_cons_succ, List.setIfInBounds_toArray, List.set_cons_zero, List.set_cons_succ]
            refine wpAnyH_done (by kernel_rfl) ?_ _
            go_wp2_with (fail)
            go_meet
            obtain ⟨x1, x2, _, _, x5⟩ := HXX.out
            refine ⟨bh, bm, .slice (some ⟨g5, 0, none⟩) (ks.length + 1) k5, rfl, x1, x2, HQ3.out.fr x5 (fun k _ hk hg => ?_), (HF3.out.mono (fun _ _ h => h.elim)).trans x5 (fun k _ hk => hk)⟩
            have hk' : wr.heap.size ≤ k := hk
            rcases hg with rfl | hg
            · omega
            · have := (HD.out.al.block k hg).2
              omega
      case rest =>
        obtain ⟨bh, bm, av5, rfl, hhx, hax, hqx, hfx⟩ := hcut
        obtain ⟨wx, rfl⟩ : ∃ wx : World, wx = wc := ⟨_, rfl⟩
        have hbx : Own 73 1 (fun k => w.heap.size ≤ k) wx bv ks.length (ks.map pb) := HD.out.bl.of (fun k hk hb => hfx.block k hk (fun hg => by
          rcases hg with rfl | hg
          · exact Go.Sb.own_ne HH.out (by decide) HD.out.bl hb
          · obtain ⟨cs, hc⟩ := own_kind HD.out.bl hb
            obtain ⟨cs', hc'⟩ := own_kind HD.out.al hg
            exact ne_of_types hc hc' (by decide) rfl))
        have d1 : wx.cell? ⟨bd, 1, none⟩ = some bv := cell_is hhx 1 rfl
        have hblx := lt_of_heap hhx
        have HHX := Lib.hid hhx
        have HAX := Lib.hid hax
        have HQX := Lib.hid hqx
        have HFX := Lib.hid hfx
        have HBX := Lib.hid hbx
        clear hhx hax hqx hfx hbx c0
        go_wp2_with (fail)
        refine wp_region_held_drew (S := fun _ => True) (by kernel_rfl) trivial (fun hT => ?_)
        refine wpAnyH_take (i := 0) (v := (.pointer (some ⟨bd, 0, none⟩))) rfl (by kernel_rfl) (by kernel_rfl) (by kernel_rfl) (fun _ _ _ h => h) (Or.inl ⟨by rfl, fun w' hS => by go_simp⟩) hT ?_
        try simp only [Act.put, List.getElem_toArray, List.getElem_cons_zero, List.setIfInBounds_toArray, List.set_cons_zero, List.set_cons_succ]
        refine wpAnyH_take (i := 1) (v := (.pointer (some ⟨bd, 0, none⟩))) rfl (by kernel_rfl) (by kernel_rfl) (by kernel_rfl) (fun _ _ _ h => h) (Or.inl ⟨by rfl, fun w' hS => by go_simp⟩) hT ?_
        try simp only [Act.put, List.getElem_toArray, List.getElem_cons_zero, List.getElem_cons_succ, List.setIfInBounds_toArray, List.set_cons_zero, List.set_cons_succ]
        refine wpAnyH_take (i := 2) (v := (.pointer (some ⟨bd, 0, none⟩))) rfl (by kernel_rfl) (by kernel_rfl) (by kernel_rfl) (fun _ _ _ h => h) (Or.inl ⟨by rfl, fun w' hS => by go_simp⟩) hT ?_
        try simp only [Act.put, List.getElem_toArray, List.getElem_cons_zero, List.getElem_cons_succ, List.setIfInBounds_toArray, List.set_cons_zero, List.set_cons_succ]
        refine wpAnyH_take (i := 3) (v := (.pointer (some ⟨bd, 1, none⟩))) rfl (by kernel_rfl) (by kernel_rfl) (by kernel_rfl) (fun _ _ _ h => h) (Or.inl ⟨by rfl, fun w' hS => by go_simp⟩) hT ?_
        try simp only [Act.put, List.getElem_toArray, List.getElem_cons_zero, List.getElem_cons_succ, List.setIfInBounds_toArray, List.set_cons_zero, List.set_cons_succ]
        refine wpAnyH_take (i := 5) (v := (.int .i64 (ks.length : Int))) rfl (by kernel_rfl) (by kernel_rfl) (by kernel_rfl) (fun _ _ _ h => h) (Or.inl ⟨by rfl, fun w' hS => by go_simp⟩) hT ?_
        try simp only [Act.put, List.getElem_toArray, List.getElem_cons_zero, List.getElem_cons_succ, List.setIfInBounds_toArray, List.set_cons_zero, List.set_cons_succ]
        refine wpAnyH_ready (rs := [4, 6]) (by kernel_rfl) (by simp) ?_
        refine AllReadyH.cons rfl (fun K hK => ?_) (AllReadyH.cons rfl (fun K hK => ?_) AllReadyH.nil)
        · rw [if_pos (by rfl)]
          go_simp
          refine hK.out _ _ trivial (fun _ => ?_)
          clear hK K
          try simp only [Act.put, List.getElem_toArray, List.getElem_cons_zero, List.getElem_cons_succ, List.setIfInBounds_toArray, List.set_cons_zero, List.set_cons_succ]
          refine wpAnyH_ready (rs := [6]) (by kernel_rfl) (by simp) ?_
          refine AllReadyH.cons rfl (fun K hK => ?_) AllReadyH.nil
          rw [if_pos (by rfl)]
          go_simp
          refine (rnew_any (ks.length : Int) _).mono ?_
          rintro e w3 ⟨rfl, hq3, hf3⟩
          have hf3' : Fr (fun _ => False) wx w3 := by first | exact ((Fr.refl (fun _ => False) wx).drew).trans hf3 (fun _ _ h => h) | exact (((Fr.refl (fun _ => False) wx).drew).drew).trans hf3 (fun _ _ h => h)
          have HQ3 : Hid (RRp (fun k => wx.heap.size ≤ k) w3 wx.heap.size (ks.length : Int) 0 (.slice none 0 0) []) := Lib.hid hq3
          have HF3 := Lib.hid hf3'
          have HA3 := Lib.hid (HBX.out.fr hf3' (fun _ _ _ h => h))
          have HH3 := Lib.hid (hf3'.get HHX.out id)
          have c3 : w3.cell? ⟨bd, 1, none⟩ = some bv := cell_is HH3.out 1 rfl
          have hl3 : bd < w3.heap.size := lt_of_heap HH3.out
          clear hq3 hf3 hf3'
          refine hK.out _ _ trivial (fun _ => ?_)
          clear hK K
          try simp only [Act.put, List.getElem_toArray, List.getElem_cons_zero, List.getElem_cons_succ, List.setIfInBounds_toArray, List.set_cons_zero, List.set_cons_succ]
          refine wpAnyH_ready (rs := [7]) (by kernel_rfl) (by simp) ?_
          refine AllReadyH.cons rfl (fun K hK => ?_) AllReadyH.nil
          rw [if_pos (by rfl)]
          go_simp
          refine hK.out _ _ trivial (fun _ => ?_)
          clear hK K
          try simp only [Act.put, List.getElem_toArray, List.getElem_cons_zero, List.getElem_cons_succ, List.setIfInBounds_toArray, List.set_cons_zero, List.set_cons_succ]
          refine wpAnyH_ready (rs := [8]) (by kernel_rfl) (by simp) ?_
          refine AllReadyH.cons rfl (fun K hK => ?_) AllReadyH.nil
          have hap : ∃ W4, W4 = (w3.alloc (.cells #[.pointer (some ⟨wx.heap.size, 0, none⟩)] 73)) := ⟨_, rfl⟩
          refine step_append_Own rfl _ _ 66 rfl 73 (.pointer none) 1 8 Try.underlying66 infoB rfl (by decide) bv ks.length (ks.map pb) rfl (by first | exact HA3.out.alloc _ | exact (HA3.out.alloc _).drew | exact HA3.out.drew.alloc _) (.slice (some ⟨w3.heap.size, 0, none⟩) 1 1) 1 [.pointer (some ⟨wx.heap.size, 0, none⟩)] rfl (by exact src_val w3 (.pointer (some ⟨wx.heap.size, 0, none⟩)) 73 rfl) (by unfold maxLen; omega) (by omega) ?_
          intro v5 w5 hv5 hf5 hn5 hd5
          have hno5 := Go.Sb.own_ne HH3.out (by decide) HA3.out
          have hv5' : Own 73 1 (ex (fun k => w.heap.size ≤ k) (w3.alloc (.cells #[.pointer (some ⟨wx.heap.size, 0, none⟩)] 73))) w5 v5 (ks.length + 1) (ks.map pb ++ [.pointer (some ⟨wx.heap.size, 0, none⟩)]) := hv5
          have hf5' : Fr (fun k => bv.ownBlock = some k) (w3.alloc (.cells #[.pointer (some ⟨wx.heap.size, 0, none⟩)] 73)) w5 := ⟨hf5.os, hf5.tape, hf5.output, hf5.size, hf5.block⟩
          have hd5' : v5.ownBlock = bv.ownBlock ∨ (Fr (fun _ => False) (w3.alloc (.cells #[.pointer (some ⟨wx.heap.size, 0, none⟩)] 73)) w5 ∧ v5.ownBlock = some (w3.alloc (.cells #[.pointer (some ⟨wx.heap.size, 0, none⟩)] 73)).heap.size) := hd5.imp id (fun h => ⟨⟨h.1.os, h.1.tape, h.1.output, h.1.size, h.1.block⟩, h.2⟩)
          have hh5 := hf5'.get ((heap_alloc_lt _ _ _ (lt_of_heap HH3.out)).trans HH3.out) hno5
          have hc5 : w5.cell? ⟨bd, 1, none⟩ = some bv := cell_is hh5 1 rfl
          have hz5 := frozen_of hh5 1
          obtain ⟨g5, k5, rfl, _, _⟩ := hv5'.some (by omega)
          have HXX := Lib.hid (row_grown (j := 1) HH3.out (by decide) HA3.out (Own.nil 73 1 (fun k => w.heap.size ≤ k) w3) (fun k _ h2 => by cases h2) (fun k hk => Nat.le_trans HD.out.frm.size (Nat.le_trans HFX.out.size (Nat.le_trans HF3.out.size hk))) hv5' hf5' hd5')
          clear hv5 hf5 hn5 hd5 hno5 hh5 hv5' hf5' hd5' hap
          refine hK.out _ _ trivial (fun _ => ?_)
          clear hK K
          try simp only [Act.put, List.getElem_toArray, List.getElem_cons_zero, List.getElem_cons_succ, List.setIfInBounds_toArray, List.set_cons_zero, List.set_cons_succ]
          refine wpAnyH_take (i := 9) (v := (.pointer (some ⟨bd, 0, none⟩))) rfl (by kernel_rfl) (by kernel_rfl) (by kernel_rfl) (fun _ _ _ h => h) (Or.inl ⟨by rfl, fun w' hS => by go_simp⟩) hT ?_
          try simp only [Act.put, List.getElem_toArray, List.getElem_cons_zero, List.getElem_cons_succ, List.setIfInBounds_toArray, List.set_cons_zero, List.set_cons_succ]
          refine wpAnyH_take (i := 10) (v := (.pointer (some ⟨bd, 1, none⟩))) rfl (by kernel_rfl) (by kernel_rfl) (by kernel_rfl) (fun _ _ _ h => h) (Or.inl ⟨by rfl, fun w' hS => by go_simp⟩) hT ?_
          try simp only [Act.put, List.getElem_toArray, List.getElem_cons_zero, List.getElem_cons_succ, List.setIfInBounds_toArray, List.set_cons_zero, List.set_cons_succ]
          refine wpAnyH_ready (rs := [11]) (by kernel_rfl) (by simp) ?_
          refine AllReadyH.cons rfl (fun K hK => ?_) AllReadyH.nil
          rw [if_pos (by rfl)]
          go_simp
          refine hK.out _ _ trivial (fun _ => ?_)
          clear hK K
          try simp only [Act.put, List.getElem_toArray, List.getElem_cons_zero, List.getElem_cons_succ, List.setIfInBounds_toArray, List.set_cons_zero, List.set_cons_succ]
          refine wpAnyH_done (by kernel_rfl) ?_ _
          go_wp2_with (fail)
          obtain ⟨y1, y2, _, _, y5⟩ := HXX.out
          have hgo : Fr (fun k => k = bd ∨ bv.ownBlock = some k) wx _ := (HF3.out.mono (fun _ _ h => h.elim)).trans y5 (fun k _ hk => hk)
          have hsx := HFX.out.size
          have hp : PRep _ ⟨(ks.length : Int), bh, bm, .slice none 0 0, [], wx.heap.size, .slice none 0 0, 0, [], []⟩ := ⟨HW.out, (hrep_exact HQX.out).fr hgo (fun k _ hk hg => ?_), (HQ3.out.exact).fr y5 (fun k _ hk hg => ?_), Sim.nil _⟩
          refine ⟨⟨_, _, _, ks ++ [(bh, wx.heap.size)], by simp, by simp; omega, HD.out.joined (p := ⟨(ks.length : Int), bh, bm, .slice none 0 0, [], wx.heap.size, .slice none 0 0, 0, [], []⟩) ((HFX.out.mono (F' := fun k => k = bd ∨ av.ownBlock = some k ∨ bv.ownBlock = some k) (fun k _ hk => hk.imp id .inl)).trans hgo (fun k _ hk => hk.imp id .inr)) (fun k hk => hk) y1 (HAX.out.of (fun k hk hb => ?_)) y2 (by omega) hp (Int.le_refl 0) (fun k hk => ?_)⟩, ?_⟩
          · refine hgo.block k hk (fun hg => ?_)
            rcases hg with rfl | hg
            · exact Go.Sb.own_ne HHX.out (by decide) HAX.out hb
            · obtain ⟨cs, hc⟩ := own_kind HAX.out hb
              obtain ⟨cs', hc'⟩ := own_kind HBX.out hg
              exact ne_of_types hc hc' (by decide) rfl
          · rcases hk with hk | hk
            · exact foot_in HQX.out k hk
            · exact Nat.le_trans hsx (HQ3.out.foot_in k hk)
          · simp [intOf]
            omega
          · have hk' : wr.heap.size ≤ k := foot_in HQX.out k hk
            rcases hg with rfl | hg
            · omega
            · have := (HD.out.bl.block k hg).2
              omega
          · have hk' : wx.heap.size ≤ k := HQ3.out.foot_in k hk
            rcases hg with rfl | hg
            · omega
            · have := (HD.out.bl.block k hg).2
              omega
        · rw [if_pos (by rfl)]
          go_simp
          refine (rnew_any (ks.length : Int) _).mono ?_
          rintro e w3 ⟨rfl, hq3, hf3⟩
          have hf3' : Fr (fun _ => False) wx w3 := by first | exact ((Fr.refl (fun _ => False) wx).drew).trans hf3 (fun _ _ h => h) | exact (((Fr.refl (fun _ => False) wx).drew).drew).trans hf3 (fun _ _ h => h)
          have HQ3 : Hid (RRp (fun k => wx.heap.size ≤ k) w3 wx.heap.size (ks.length : Int) 0 (.slice none 0 0) []) := Lib.hid hq3
          have HF3 := Lib.hid hf3'
          have HA3 := Lib.hid (HBX.out.fr hf3' (fun _ _ _ h => h))
          have HH3 := Lib.hid (hf3'.get HHX.out id)
          have c3 : w3.cell? ⟨bd, 1, none⟩ = some bv := cell_is HH3.out 1 rfl
          have hl3 : bd < w3.heap.size := lt_of_heap HH3.out
          clear hq3 hf3 hf3'
          refine hK.out _ _ trivial (fun _ => ?_)
          clear hK K
          try simp only [Act.put, List.getElem_toArray, List.getElem_cons_zero, List.getElem_cons_succ, List.setIfInBounds_toArray, List.set_cons_zero, List.set_cons_succ]
          refine wpAnyH_ready (rs := [4, 7]) (by kernel_rfl) (by simp) ?_
          refine AllReadyH.cons rfl (fun K hK => ?_) (AllReadyH.cons rfl (fun K hK => ?_) AllReadyH.nil)
          · rw [if_pos (by rfl)]
            go_simp
            refine hK.out _ _ trivial (fun _ => ?_)
            clear hK K
            try simp only [Act.put, List.getElem_toArray, List.getElem_cons_zero, List.getElem_cons_succ, List.setIfInBounds_toArray, List.set_cons_zero, List.set_cons_succ]
            refine wpAnyH_ready (rs := [7]) (by kernel_rfl) (by simp) ?_
            refine AllReadyH.cons rfl (fun K hK => ?_) AllReadyH.nil
            rw [if_pos (by rfl)]
            go_simp
            refine hK.out _ _ trivial (fun _ => ?_)
            clear hK K
            try simp only [Act.put, List.getElem_toArray, List.getElem_cons_zero, List.getElem_cons_succ, List.setIfInBounds_toArray, List.set_cons_zero, List.set_cons_succ]
            refine wpAnyH_ready (rs := [8]) (by kernel_rfl) (by simp) ?_
            refine AllReadyH.cons rfl (fun K hK => ?_) AllReadyH.nil
            have hap : ∃ W4, W4 = (w3.alloc (.cells #[.pointer (some ⟨wx.heap.size, 0, none⟩)] 73)) := ⟨_, rfl⟩
            refine step_append_Own rfl _ _ 66 rfl 73 (.pointer none) 1 8 Try.underlying66 infoB rfl (by decide) bv ks.length (ks.map pb) rfl (by first | exact HA3.out.alloc _ | exact (HA3.out.alloc _).drew | exact HA3.out.drew.alloc _) (.slice (some ⟨w3.heap.size, 0, none⟩) 1 1) 1 [.pointer (some ⟨wx.heap.size, 0, none⟩)] rfl (by exact src_val w3 (.pointer (some ⟨wx.heap.size, 0, none⟩)) 73 rfl) (by unfold maxLen; omega) (by omega) ?_
            intro v5 w5 hv5 hf5 hn5 hd5
            have hno5 := Go.Sb.own_ne HH3.out (by decide) HA3.out
            have hv5' : Own 73 1 (ex (fun k => w.heap.size ≤ k) (w3.alloc (.cells #[.pointer (some ⟨wx.heap.size, 0, none⟩)] 73))) w5 v5 (ks.length + 1) (ks.map pb ++ [.pointer (some ⟨wx.heap.size, 0, none⟩)]) := hv5
            have hf5' : Fr (fun k => bv.ownBlock = some k) (w3.alloc (.cells #[.pointer (some ⟨wx.heap.size, 0, none⟩)] 73)) w5 := ⟨hf5.os, hf5.tape, hf5.output, hf5.size, hf5.block⟩
            have hd5' : v5.ownBlock = bv.ownBlock ∨ (Fr (fun _ => False) (w3.alloc (.cells #[.pointer (some ⟨wx.heap.size, 0, none⟩)] 73)) w5 ∧ v5.ownBlock = some (w3.alloc (.cells #[.pointer (some ⟨wx.heap.size, 0, none⟩)] 73)).heap.size) := hd5.imp id (fun h => ⟨⟨h.1.os, h.1.tape, h.1.output, h.1.size, h.1.block⟩, h.2⟩)
            have hh5 := hf5'.get ((heap_alloc_lt _ _ _ (lt_of_heap HH3.out)).trans HH3.out) hno5
            have hc5 : w5.cell? ⟨bd, 1, none⟩ = some bv := cell_is hh5 1 rfl
            have hz5 := frozen_of hh5 1
            obtain ⟨g5, k5, rfl, _, _⟩ := hv5'.some (by omega)
            have HXX := Lib.hid (row_grown (j := 1) HH3.out (by decide) HA3.out (Own.nil 73 1 (fun k => w.heap.size ≤ k) w3) (fun k _ h2 => by cases h2) (fun k hk => Nat.le_trans HD.out.frm.size (Nat.le_trans HFX.out.size (Nat.le_trans HF3.out.size hk))) hv5' hf5' hd5')
            clear hv5 hf5 hn5 hd5 hno5 hh5 hv5' hf5' hd5' hap
            refine hK.out _ _ trivial (fun _ => ?_)
            clear hK K
            try simp only [Act.put, List.getElem_toArray, List.getElem_cons_zero, List.getElem_cons_succ, List.setIfInBounds_toArray, List.set_cons_zero, List.set_cons_succ]
            refine wpAnyH_take (i := 9) (v := (.pointer (some ⟨bd, 0, none⟩))) rfl (by kernel_rfl) (by kernel_rfl) (by kernel_rfl) (fun _ _ _ h => h) (Or.inl ⟨by rfl, fun w' hS => by go_simp⟩) hT ?_
            try simp only [Act.put, List.getElem_toArray, List.getElem_cons_zero, List.getElem_cons_succ, List.setIfInBounds_toArray, List.set_cons_zero, List.set_cons_succ]
            refine wpAnyH_take (i := 10) (v := (.pointer (some ⟨bd, 1, none⟩))) rfl (by kernel_rfl) (by kernel_rfl) (by kernel_rfl) (fun _ _ _ h => h) (Or.inl ⟨by rfl, fun w' hS => by go_simp⟩) hT ?_
            try simp only [Act.put, List.getElem_toArray, List.getElem_cons_zero, List.getElem_cons_succ, List.setIfInBounds_toArray, List.set_cons_zero, List.set_cons_succ]
            refine wpAnyH_ready (rs := [11]) (by kernel_rfl) (by simp) ?_
            refine AllReadyH.cons rfl (fun K hK => ?_) AllReadyH.nil
            rw [if_pos (by rfl)]
            go_simp
            refine hK.out _ _ trivial (fun _ => ?_)
            clear hK K
            try simp only [Act.put, List.getElem_toArray, List.getElem_cons_zero, List.getElem_cons_succ, List.setIfInBounds_toArray, List.set_cons_zero, List.set_cons_succ]
            refine wpAnyH_done (by kernel_rfl) ?_ _
            go_wp2_with (fail)
            obtain ⟨y1, y2, _, _, y5⟩ := HXX.out
            have hgo : Fr (fun k => k = bd ∨ bv.ownBlock = some k) wx _ := (HF3.out.mono (fun _ _ h => h.elim)).trans y5 (fun k _ hk => hk)
            have hsx := HFX.out.size
            have hp : PRep _ ⟨(ks.length : Int), bh, bm, .slice none 0 0, [], wx.heap.size, .slice none 0 0, 0, [], []⟩ := ⟨HW.out, (hrep_exact HQX.out).fr hgo (fun k _ hk hg => ?_), (HQ3.out.exact).fr y5 (fun k _ hk hg => ?_), Sim.nil _⟩
            refine ⟨⟨_, _, _, ks ++ [(bh, wx.heap.size)], by simp, by simp; omega, HD.out.joined (p := ⟨(ks.length : Int), bh, bm, .slice none 0 0, [], wx.heap.size, .slice none 0 0, 0, [], []⟩) ((HFX.out.mono (F' := fun k => k = bd ∨ av.ownBlock = some k ∨ bv.ownBlock = some k) (fun k _ hk => hk.imp id .inl)).trans hgo (fun k _ hk => hk.imp id .inr)) (fun k hk => hk) y1 (HAX.out.of (fun k hk hb => ?_)) y2 (by omega) hp (Int.le_refl 0) (fun k hk => ?_)⟩, ?_⟩
            · refine hgo.block k hk (fun hg => ?_)
              rcases hg with rfl | hg
              · exact Go.Sb.own_ne HHX.out (by decide) HAX.out hb
              · obtain ⟨cs, hc⟩ := own_kind HAX.out hb
                obtain ⟨cs', hc'⟩ := own_kind HBX.out hg
                exact ne_of_types hc hc' (by decide) rfl
            · rcases hk with hk | hk
              · exact foot_in HQX.out k hk
              · exact Nat.le_trans hsx (HQ3.out.foot_in k hk)
            · simp [intOf]
              omega
            · have hk' : wr.heap.size ≤ k := foot_in HQX.out k hk
              rcases hg with rfl | hg
              · omega
              · have := (HD.out.bl.block k hg).2
                omega
            · have hk' : wx.heap.size ≤ k := HQ3.out.foot_in k hk
              rcases hg with rfl | hg
              · omega
              · have := (HD.out.bl.block k hg).2
                omega
          · rw [if_pos (by rfl)]
            go_simp
            refine hK.out _ _ trivial (fun _ => ?_)
            clear hK K
            try simp only [Act.put, List.getElem_toArray, List.getElem_cons_zero, List.getElem_cons_succ, List.setIfInBounds_toArray, List.set_cons_zero, List.set_cons_succ]
            refine wpAnyH_ready (rs := [4]) (by kernel_rfl) (by simp) ?_
            refine AllReadyH.cons rfl (fun K hK => ?_) AllReadyH.nil
            rw [if_pos (by rfl)]
            go_simp
            refine hK.out _ _ trivial (fun _ => ?_)
            clear hK K
            try simp only [Act.put, List.getElem_toArray, List.getElem_cons_zero, List.getElem_cons_succ, List.setIfInBounds_toArray, List.set_cons_zero, List.set_cons_succ]
            refine wpAnyH_ready (rs := [8]) (by kernel_rfl) (by simp) ?_
            refine AllReadyH.cons rfl (fun K hK => ?_) AllReadyH.nil
            have hap : ∃ W4, W4 = (w3.alloc (.cells #[.pointer (some ⟨wx.heap.size, 0, none⟩)] 73)) := ⟨_, rfl⟩
            refine step_append_Own rfl _ _ 66 rfl 73 (.pointer none) 1 8 Try.underlying66 infoB rfl (by decide) bv ks.length (ks.map pb) rfl (by first | exact HA3.out.alloc _ | exact (HA3.out.alloc _).drew | exact HA3.out.drew.alloc _) (.slice (some ⟨w3.heap.size, 0, none⟩) 1 1) 1 [.pointer (some ⟨wx.heap.size, 0, none⟩)] rfl (by exact src_val w3 (.pointer (some ⟨wx.heap.size, 0, none⟩)) 73 rfl) (by unfold maxLen; omega) (by omega) ?_
            intro v5 w5 hv5 hf5 hn5 hd5
            have hno5 := Go.Sb.own_ne HH3.out (by decide) HA3.out
            have hv5' : Own 73 1 (ex (fun k => w.heap.size ≤ k) (w3.alloc (.cells #[.pointer (some ⟨wx.heap.size, 0, none⟩)] 73))) w5 v5 (ks.length + 1) (ks.map pb ++ [.pointer (some ⟨wx.heap.size, 0, none⟩)]) := hv5
            have hf5' : Fr (fun k => bv.ownBlock = some k) (w3.alloc (.cells #[.pointer (some ⟨wx.heap.size, 0, none⟩)] 73)) w5 := ⟨hf5.os, hf5.tape, hf5.output, hf5.size, hf5.block⟩
            have hd5' : v5.ownBlock = bv.ownBlock ∨ (Fr (fun _ => False) (w3.alloc (.cells #[.pointer (some ⟨wx.heap.size, 0, none⟩)] 73)) w5 ∧ v5.ownBlock = some (w3.alloc (.cells #[.pointer (some ⟨wx.heap.size, 0, none⟩)] 73)).heap.size) := hd5.imp id (fun h => ⟨⟨h.1.os, h.1.tape, h.1.output, h.1.size, h.1.block⟩, h.2⟩)
            have hh5 := hf5'.get ((heap_alloc_lt _ _ _ (lt_of_heap HH3.out)).trans HH3.out) hno5
            have hc5 : w5.cell? ⟨bd, 1, none⟩ = some bv := cell_is hh5 1 rfl
            have hz5 := frozen_of hh5 1
            obtain ⟨g5, k5, rfl, _, _⟩ := hv5'.some (by omega)
            have HXX := Lib.hid (row_grown (j := 1) HH3.out (by decide) HA3.out (Own.nil 73 1 (fun k => w.heap.size ≤ k) w3) (fun k _ h2 => by cases h2) (fun k hk => Nat.le_trans HD.out.frm.size (Nat.le_trans HFX.out.size (Nat.le_trans HF3.out.size hk))) hv5' hf5' hd5')
            clear hv5 hf5 hn5 hd5 hno5 hh5 hv5' hf5' hd5' hap
            refine hK.out _ _ trivial (fun _ => ?_)
            clear hK K
            try simp only [Act.put, List.getElem_toArray, List.getElem_cons_zero, List.getElem_cons_succ, List.setIfInBounds_toArray, List.set_cons_zero, List.set_cons_succ]
            refine wpAnyH_take (i := 9) (v := (.pointer (some ⟨bd, 0, none⟩))) rfl (by kernel_rfl) (by kernel_rfl) (by kernel_rfl) (fun _ _ _ h => h) (Or.inl ⟨by rfl, fun w' hS => by go_simp⟩) hT ?_
            try simp only [Act.put, List.getElem_toArray, List.getElem_cons_zero, List.getElem_cons_succ, List.setIfInBounds_toArray, List.set_cons_zero, List.set_cons_succ]
            refine wpAnyH_take (i := 10) (v := (.pointer (some ⟨bd, 1, none⟩))) rfl (by kernel_rfl) (by kernel_rfl) (by kernel_rfl) (fun _ _ _ h => h) (Or.inl ⟨by rfl, fun w' hS => by go_simp⟩) hT ?_
            try simp only [Act.put, List.getElem_toArray, List.getElem_cons_zero, List.getElem_cons_succ, List.setIfInBounds_toArray, List.set_cons_zero, List.set_cons_succ]
            refine wpAnyH_ready (rs := [11]) (by kernel_rfl) (by simp) ?_
            refine AllReadyH.cons rfl (fun K hK => ?_) AllReadyH.nil
            rw [if_pos (by rfl)]
            go_simp
            refine hK.out _ _ trivial (fun _ => ?_)
            clear hK K
            try simp only [Act.put, List.getElem_toArray, List.getElem_cons_zero, List.getElem_cons_succ, List.setIfInBounds_toArray, List.set_cons_zero, List.set_cons_succ]
            refine wpAnyH_done (by kernel_rfl) ?_ _
            go_wp2_with (fail)
            obtain ⟨y1, y2, _, _, y5⟩ := HXX.out
            have hgo : Fr (fun k => k = bd ∨ bv.ownBlock = some k) wx _ := (HF3.out.mono (fun _ _ h => h.elim)).trans y5 (fun k _ hk => hk)
            have hsx := HFX.out.size
            have hp : PRep _ ⟨(ks.length : Int), bh, bm, .slice none 0 0, [], wx.heap.size, .slice none 0 0, 0, [], []⟩ := ⟨HW.out, (hrep_exact HQX.out).fr hgo (fun k _ hk hg => ?_), (HQ3.out.exact).fr y5 (fun k _ hk hg => ?_), Sim.nil _⟩
            refine ⟨⟨_, _, _, ks ++ [(bh, wx.heap.size)], by simp, by simp; omega, HD.out.joined (p := ⟨(ks.length : Int), bh, bm, .slice none 0 0, [], wx.heap.size, .slice none 0 0, 0, [], []⟩) ((HFX.out.mono (F' := fun k => k = bd ∨ av.ownBlock = some k ∨ bv.ownBlock = some k) (fun k _ hk => hk.imp id .inl)).trans hgo (fun k _ hk => hk.imp id .inr)) (fun k hk => hk) y1 (HAX.out.of (fun k hk hb => ?_)) y2 (by omega) hp (Int.le_refl 0) (fun k hk => ?_)⟩, ?_⟩
            · refine hgo.block k hk (fun hg => ?_)
              rcases hg with rfl | hg
              · exact Go.Sb.own_ne HHX.out (by decide) HAX.out hb
              · obtain ⟨cs, hc⟩ := own_kind HAX.out hb
                obtain ⟨cs', hc'⟩ := own_kind HBX.out hg
                exact ne_of_types hc hc' (by decide) rfl
            · rcases hk with hk | hk
              · exact foot_in HQX.out k hk
              · exact Nat.le_trans hsx (HQ3.out.foot_in k hk)
            · simp [intOf]
              omega
            · have hk' : wr.heap.size ≤ k := foot_in HQX.out k hk
              rcases hg with rfl | hg
              · omega
              · have := (HD.out.bl.block k hg).2
                omega
            · have hk' : wx.heap.size ≤ k := HQ3.out.foot_in k hk
              rcases hg with rfl | hg
              · omega
              · have := (HD.out.bl.block k hg).2
                omega
      -- (the round's end)
    · have hk3' : ks.length = 3 := by omega
      have HK3 := Lib.hid hk3'
      clear hk3'
      go_wp2_with (fail)
      go_loopw [43] (fun i wr => ScRel2 w bd ln i wr) (fun i _ => ln - (intOf i).toNat)
      case atStart => exact ⟨0, P, _, _, _, _, ks, [], 0, rfl, Nat.zero_le _, by simpa using HD.out, by have := HK3.out; omega⟩
      case round =>
        rename World => wq
        obtain ⟨k, P', av', bv', vo', vw', ks', E', fr', rfl, hkl, hd, h1⟩ := hrel
        have HD' := Lib.hid hd
        clear hd
        by_cases hlt2 : k < ln
        · obtain rfl := HLA.out (by omega)
          obtain ⟨hc0, hc1, hc2, hc3, hc4⟩ := HC.out k hlt2
          have e0 := cell_fr HD'.out.frm hc0 id
          have e1 := cell_fr HD'.out.frm hc1 id
          have e2 := cell_fr HD'.out.frm hc2 id
          have e3 := cell_fr HD'.out.frm hc3 id
          have e4 := cell_fr HD'.out.frm hc4 id
          clear hc0 hc1 hc2 hc3 hc4
          generalize th k = q at *
          obtain ⟨kd, ac, tk, rx, mx⟩ := q
          dsimp only at e0 e1 e2 e3 e4
          have hfa : Fr (fun _ => False) wq (wq.alloc (.cells #[.int .i64 kd, .int .i64 ac, .int .i64 tk, .int .i64 rx, .int .i64 mx] 55)) := (Fr.refl _ wq).alloc _
          have HST := Lib.hid (act_desk w _ bd P' k av' bv' vo' vw' ks' E' fr' (HD'.out.stay hfa (Int.le_refl _)) h1 (by omega) kd ac tk rx mx)
          clear hfa
          go_wp2_with (fail)
          refine HST.out.mono ?_
          rintro e w3 ⟨rfl, P2, av2, bv2, vo2, vw2, ks2, E2, fr2, h2, h12⟩
          have HO := Lib.hid (holds_any w3 bd av2 bv2 vo2 vw2 (.int .i64 (fr2 : Int)) E2 h2.held.rows (fun j e he => ⟨(h2.held.pile.rd j e he).1.1, (h2.held.pile.rd j e he).2.1⟩) (fun j e he => by have := (h2.lim j e he).1; omega) (by have := h2.pot; have := h2.fle; omega))
          have H2 := Lib.hid h2
          clear h2 HST
          by_cases h300 : k < 300
          · go_wp2_with (fail)
            refine HO.out.mono ?_
            rintro e w4 ⟨rfl, n4, rfl⟩
            have H3 := Lib.hid (H2.out.stay ((Fr.refl (fun _ => False) w3).drewN n4) (Int.le_refl _))
            clear HO
            go_wp2_with (fail)
            refine ⟨⟨k + 1, P2, av2, bv2, vo2, vw2, ks2, E2, fr2, by simp, hlt2, by simpa using H3.out, h12⟩, ?_⟩
            simp [intOf]
            omega
          · go_wp2_with (fail)
            refine ⟨⟨k + 1, P2, av2, bv2, vo2, vw2, ks2, E2, fr2, by simp, hlt2, by simpa using H2.out, h12⟩, ?_⟩
            simp [intOf]
            omega
        · have hkn : k = ln := by omega
          subst hkn
          have HS1 := Lib.hid (stands_desk w wq bd P' k av' bv' vo' vw' ks' E' fr' HD'.out h1 (by omega))
          go_wp2_with (fail)
          refine HS1.out.mono ?_
          rintro e w3 ⟨rfl, vo3, vw3, E3, h3⟩
          have HW3 := Lib.hid (write_desk w w3 bd P' (k + 4) av' bv' vo3 vw3 ks' E3 fr' h3 (by omega))
          clear HS1 h3
          go_wp2_with (fail)
          refine HW3.out.mono ?_
          rintro e w4 ⟨rfl, vo4, vw4, E4, fr4, h4⟩
          have HS4 := Lib.hid (stands_desk w w4 bd P' (k + 4) av' bv' vo4 vw4 ks' E4 fr4 h4 h1 (by omega))
          clear HW3 h4
          go_wp2_with (fail)
          refine HS4.out.mono ?_
          rintro e w5 ⟨rfl, vo5, vw5, E5, h5⟩
          have HW5 := Lib.hid (write_desk w w5 bd P' (k + 4 + 4) av' bv' vo5 vw5 ks' E5 fr4 h5 (by omega))
          clear HS4 h5
          go_wp2_with (fail)
          refine HW5.out.mono ?_
          rintro e w6 ⟨rfl, vo6, vw6, E6, fr6, h6⟩
          have HF6 := Lib.hid h6.frm
          clear HW5 h6
          go_wp2_with (fail)
          go_ret
          exact ⟨rfl, HF6.out⟩

end Go.Proofs.Ytikimfdijkejpaa.HT
