/- HeapStays: what stands between two calls. -/
import Derived.Test.YtikimfdijkejpaaHpLists
import Derived.Test.YtikimfdijkejpaaHTChange
namespace Go.Proofs.Ytikimfdijkejpaa.HT
open Go.RowKit Go.Sb

theorem rep_nodup {F : Nat → Prop} {w : World} {bh bm : Nat} {fv lv : Value} {g : Int} {L : List (Int × (Int × Int))} {m : List (Int × Value)} (h : HRep 99 101 3 F w bh fv g (L.map en) lv bm m) : (L.map Prod.fst).Nodup := by
  unfold List.Nodup
  rw [List.pairwise_map, List.pairwise_iff_getElem]
  intro i j hi hj hij
  exact h.ok.tickets (i := i) (j := j) (a := en L[i]) (b := en L[j]) (by rw [List.getElem?_map, List.getElem?_eq_getElem hi]; rfl) (by rw [List.getElem?_map, List.getElem?_eq_getElem hj]; rfl) (by omega)

/-- The heap in the way of rising ranks, a list of numbers, a boxed call. -/
structure SB (w0 : World) (N bh bm : Nat) (g : Int) (L : List (Int × (Int × Int))) (v : Value) (os : List Int) (b9 : Nat) (o9 : Obj) (W : World) : Prop where
  h : ∃ lv m, HRep 99 101 3 (fun k => w0.heap.size ≤ k) W bh (.func (.func 52) #[] #[]) g (L.map en) lv bm m
  ok : HOK kRise L
  len : L.length ≤ N
  ri : RI W v os
  vb : ∀ k, v.ownBlock = some k → ∃ cs, W.heap[k]? = some (.cells cs 3 (0, 0))
  bx : W.heap[b9]? = some o9
  fr : Fr (fun _ => False) w0 W

section
variable {w0 : World} {N bh bm : Nat} {g : Int} {L : List (Int × (Int × Int))} {v : Value} {os : List Int} {b9 : Nat} {o9 : Obj} {W W' : World}

theorem SB.kept (h : SB w0 N bh bm g L v os b9 o9 W) (hf : Fr (fun _ => False) W W') : SB w0 N bh bm g L v os b9 o9 W' := by
  obtain ⟨lv, m, hr⟩ := h.h
  exact ⟨⟨lv, m, hr.fr hf (fun _ _ _ h => h)⟩, h.ok, h.len, h.ri.fr hf (fun _ _ h => h), fun k hk => by obtain ⟨cs, h1⟩ := h.vb k hk; exact ⟨cs, hf.get h1 id⟩, hf.get h.bx id, h.fr.trans hf (fun _ _ h => h)⟩

theorem SB.upd {cs9 : Array Value} {L' : List (Int × (Int × Int))} {lv lv' : Value} {m m' : List (Int × Value)} (h : SB w0 N bh bm g L v os b9 (.cells cs9 55 (0, 0)) W) (hr : HRep 99 101 3 (fun k => w0.heap.size ≤ k) W bh (.func (.func 52) #[] #[]) g (L.map en) lv bm m)
    (hr' : HRep 99 101 3 (foot bh bm lv) W' bh (.func (.func 52) #[] #[]) g (L'.map en) lv' bm m') (hf : Fr (fun k => foot bh bm lv k ∨ noSb k) W W') (hok : HOK kRise L') (hl : L'.length ≤ N) : SB w0 N bh bm g L' v os b9 (.cells cs9 55 (0, 0)) W' := by
  have hv : ∀ k, v.ownBlock = some k → ¬ (foot bh bm lv k ∨ noSb k) := fun k hk hx => by
    obtain ⟨cs, h1⟩ := h.vb k hk
    rcases hx with (rfl | rfl | hx) | hx
    · exact ne_of_types h1 hr.head (by decide) rfl
    · exact hr.map.ne h1 rfl
    · exact own_neT h1 (by decide) hr.list hx
    · exact hx
  have hb : ¬ (foot bh bm lv b9 ∨ noSb b9) := fun hx => by
    rcases hx with (hx | hx | hx) | hx
    · exact ne_of_types h.bx hr.head (by decide) hx
    · exact hr.map.ne h.bx hx
    · exact own_neT h.bx (by decide) hr.list hx
    · exact hx
  refine ⟨⟨lv', m', hr'.mono (fun k _ hk => foot_in hr k hk)⟩, hok, hl, h.ri.fr hf hv, fun k hk => ?_, hf.get h.bx hb, h.fr.trans hf (fun k hk hx => ?_)⟩
  · obtain ⟨cs, h1⟩ := h.vb k hk
    exact ⟨cs, hf.get h1 (hv k hk)⟩
  · rcases hx with hx | hx
    · exact absurd (show w0.heap.size ≤ k from foot_in hr k hx) (by omega)
    · exact hx

theorem sb_order (h : SB w0 N bh bm g L v os b9 o9 W) (hN : N ≤ 8796093022208) : Calls Try.prog 36 #[.pointer (some ⟨bh, 0, none⟩)] W fun e w' => ∃ v', e = .returned v' ∧ SB w0 N bh bm g L v os b9 o9 w' ∧ SB w0 N bh bm g L v' ((orderL kRise L).map Prod.fst) b9 o9 w' ∧ RI w' v' ((orderL kRise L).map Prod.fst) := by
  obtain ⟨lv, m, hr⟩ := h.h
  have hl := h.len
  refine (order_any rise_spec hr (by omega)).mono ?_
  rintro e w' ⟨v', rfl, ho, hf⟩
  have hk := h.kept hf
  have hri := own_ri ho (by omega)
  refine ⟨v', rfl, hk, ⟨hk.h, hk.ok, hk.len, hri, fun k hb => ?_, hk.bx, hk.fr⟩, hri⟩
  rcases ho.2 with ⟨rfl, _⟩ | ⟨gg, cap, cur, rfl, _, hg, _⟩
  · cases hb
  · simp only [Value.ownBlock, Option.some.injEq] at hb
    subst hb
    exact ⟨cur, hg⟩

theorem sb_get_some (h : SB w0 N bh bm g L v os b9 o9 W) {i : Nat} {t : Int} {x : Int × Int} (hi : L[i]? = some (t, x)) : Calls Try.prog 37 #[.pointer (some ⟨bh, 0, none⟩), .int .i64 t] W fun e w' => e = .returned (.tuple #[.agg #[.int .i64 x.1, .int .i64 x.2], .bool true]) ∧ SB w0 N bh bm g L v os b9 o9 w' := by
  obtain ⟨lv, m, hr⟩ := h.h
  exact (get_some hr hi).mono fun _ _ ⟨he, hf⟩ => ⟨he, h.kept hf⟩

theorem sb_get_none (h : SB w0 N bh bm g L v os b9 o9 W) {t : Int} (hi : ∀ p ∈ L, p.1 ≠ t) : Calls Try.prog 37 #[.pointer (some ⟨bh, 0, none⟩), .int .i64 t] W fun e w' => e = .returned (.tuple #[.agg #[.int .i64 0, .int .i64 0], .bool false]) ∧ SB w0 N bh bm g L v os b9 o9 w' := by
  obtain ⟨lv, m, hr⟩ := h.h
  exact (get_none hr hi).mono fun _ _ ⟨he, hf⟩ => ⟨he, h.kept hf⟩

theorem sb_remove_some {cs9 : Array Value} (h : SB w0 N bh bm g L v os b9 (.cells cs9 55 (0, 0)) W) (hN : N ≤ 8796093022208) {i : Nat} {t : Int} {x : Int × Int} (hi : L[i]? = some (t, x)) : Calls Try.prog 28 #[.pointer (some ⟨bh, 0, none⟩), .int .i64 t] W fun e w' => e = .returned (.tuple #[.agg #[.int .i64 x.1, .int .i64 x.2], .bool true]) ∧ SB w0 N bh bm g (takeL kRise L i) v os b9 (.cells cs9 55 (0, 0)) w' := by
  obtain ⟨lv, m, hr⟩ := h.h
  have hl := h.len
  refine (remove_some rise_spec (hrep_exact hr) hi (by omega) (fun _ _ => trivial) (c := 0) trivial (foot_lt hr) (fun k h => h.elim)).mono ?_
  rintro e w' ⟨rfl, ⟨lv', m', hr'⟩, _, hf⟩
  refine ⟨rfl, h.upd hr hr' hf (takeL_ok i h.ok) ?_⟩
  have := (takeL_perm (key := kRise) hi).length_eq
  rw [List.length_cons] at this
  omega

theorem sb_remove_none (h : SB w0 N bh bm g L v os b9 o9 W) {t : Int} (hi : ∀ p ∈ L, p.1 ≠ t) : Calls Try.prog 28 #[.pointer (some ⟨bh, 0, none⟩), .int .i64 t] W fun e w' => e = .returned (.tuple #[.agg #[.int .i64 0, .int .i64 0], .bool false]) ∧ SB w0 N bh bm g L v os b9 o9 w' := by
  obtain ⟨lv, m, hr⟩ := h.h
  exact (remove_none hr hi).mono fun _ _ ⟨he, hf⟩ => ⟨he, h.kept hf⟩

theorem sb_change_some {cs9 : Array Value} (h : SB w0 N bh bm g L v os b9 (.cells cs9 55 (0, 0)) W) (hN : N ≤ 8796093022208) {i : Nat} {t : Int} {x : Int × Int} (y : Int × Int) (hi : L[i]? = some (t, x)) : Calls Try.prog 29 #[.pointer (some ⟨bh, 0, none⟩), .int .i64 t, .agg #[.int .i64 y.1, .int .i64 y.2]] W fun e w' => e = .returned (.bool true) ∧ SB w0 N bh bm g (settleL kRise (L.set i (t, y)) i) v os b9 (.cells cs9 55 (0, 0)) w' := by
  obtain ⟨lv, m, hr⟩ := h.h
  have hl := h.len
  have hil := (List.getElem?_eq_some_iff.1 hi).1
  refine (change_some rise_spec y (hrep_exact hr) hi (by omega) (fun _ _ => trivial) trivial (c := 0) trivial (fun k h => h.elim)).mono ?_
  rintro e w' ⟨rfl, ⟨m', hr'⟩, _, hf⟩
  refine ⟨rfl, h.upd hr hr' hf (changeL_ok i hil _ h.ok) ?_⟩
  rw [settleL_length, List.length_set]
  exact hl

theorem sb_change_none (h : SB w0 N bh bm g L v os b9 o9 W) {t : Int} (y : Int × Int) (hi : ∀ p ∈ L, p.1 ≠ t) : Calls Try.prog 29 #[.pointer (some ⟨bh, 0, none⟩), .int .i64 t, .agg #[.int .i64 y.1, .int .i64 y.2]] W fun e w' => e = .returned (.bool false) ∧ SB w0 N bh bm g L v os b9 o9 w' := by
  obtain ⟨lv, m, hr⟩ := h.h
  exact (change_none y hr hi).mono fun _ _ ⟨he, hf⟩ => ⟨he, h.kept hf⟩
end

/-! ### the others' order -/
section
variable {L : List (Int × (Int × Int))} {i : Nat} {t : Int} {x : Int × Int}

theorem nodup_no {A B : List (Int × (Int × Int))} {p : Int × (Int × Int)} (h : ((A ++ p :: B).map Prod.fst).Nodup) : ∀ q ∈ A ++ B, q.1 ≠ p.1 := fun q hq e => by
  rw [List.map_append, List.map_cons, List.nodup_append] at h
  have h2 := List.nodup_cons.1 h.2.1
  rcases List.mem_append.1 hq with hq | hq
  · exact h.2.2 _ (List.mem_map.2 ⟨q, hq, rfl⟩) p.1 (by simp) e
  · exact h2.1 (List.mem_map.2 ⟨q, hq, e⟩)

theorem take_no (hi : L[i]? = some (t, x)) (hn : (L.map Prod.fst).Nodup) : ∀ q ∈ takeL kRise L i, q.1 ≠ t := by
  have hp := takeL_perm (key := kRise) hi
  have h1 := (hp.map Prod.fst).nodup_iff.2 hn
  rw [List.map_cons, List.nodup_cons] at h1
  intro q hq e
  exact h1.1 (List.mem_map.2 ⟨q, hq, e⟩)

theorem order_take (hi : L[i]? = some (t, x)) (hn : (L.map Prod.fst).Nodup) (hok : HOK kRise L) :
    ((orderL kRise (takeL kRise L i)).map Prod.fst).filter (fun y => y != t) = ((orderL kRise L).map Prod.fst).filter (fun y => y != t) := by
  have hp := takeL_perm (key := kRise) hi
  have h1 : ((takeL kRise L i).map Prod.fst).Nodup := by
    have h1 := (hp.map Prod.fst).nodup_iff.2 hn
    rw [List.map_cons, List.nodup_cons] at h1
    exact h1.2
  refine order_others (takeL_ok i hok) hok h1 t ?_
  have h2 := hp.filter (fun p => p.1 != t)
  rw [List.filter_cons, if_neg (by simp)] at h2
  exact h2

theorem set_filter : ∀ (L : List (Int × (Int × Int))) (i : Nat) (t : Int) (x y : Int × Int), L[i]? = some (t, x) → (L.set i (t, y)).filter (fun p => p.1 != t) = L.filter (fun p => p.1 != t)
  | [], _, _, _, _, h => by simp at h
  | a :: L, 0, t, x, y, h => by
    simp only [List.getElem?_cons_zero, Option.some.injEq] at h
    subst h
    rw [List.set_cons_zero, List.filter_cons, List.filter_cons, if_neg (by simp), if_neg (by simp)]
  | a :: L, i + 1, t, x, y, h => by
    have ih := set_filter L i t x y (by simpa using h)
    rw [List.set_cons_succ, List.filter_cons, List.filter_cons, ih]

theorem set_map (hi : L[i]? = some (t, x)) (y : Int × Int) : (L.set i (t, y)).map Prod.fst = L.map Prod.fst := by
  rw [List.map_set]
  exact set_self (by rw [List.getElem?_map, hi]; rfl)

theorem order_change (hi : L[i]? = some (t, x)) (hn : (L.map Prod.fst).Nodup) (hok : HOK kRise L) (y : Int × Int) :
    ((orderL kRise (settleL kRise (L.set i (t, y)) i)).map Prod.fst).filter (fun z => z != t) = ((orderL kRise L).map Prod.fst).filter (fun z => z != t) := by
  have hil := (List.getElem?_eq_some_iff.1 hi).1
  have hp := settleL_perm (key := kRise) (L.set i (t, y)) i
  refine order_others (changeL_ok i hil _ hok) hok ?_ t ?_
  · rw [(hp.map Prod.fst).nodup_iff, set_map hi]
    exact hn
  · have h2 := hp.filter (fun p => p.1 != t)
    rwa [set_filter L i t x y hi] at h2

theorem change_at (hi : L[i]? = some (t, x)) (y : Int × Int) : ∃ k : Nat, (settleL kRise (L.set i (t, y)) i)[k]? = some (t, y) := by
  have hil := (List.getElem?_eq_some_iff.1 hi).1
  have hm : (t, y) ∈ L.set i (t, y) := List.mem_of_getElem? (List.getElem?_set_self hil)
  exact List.getElem?_of_mem ((settleL_perm (key := kRise) (L.set i (t, y)) i).mem_iff.2 hm)
end

end Go.Proofs.Ytikimfdijkejpaa.HT
