/- How often a heap asks: the closure that counts, each call by its count. -/
import Derived.Test.YtikimfdijkejpaaHpOrd
import Derived.Test.YtikimfdijkejpaaHTPush
import Derived.Test.YtikimfdijkejpaaHTChange
namespace Go.Proofs.Ytikimfdijkejpaa.HT
open Go.RowKit Go.Sb

/-- The counter's cell; beyond 2^62 nothing is said of its number. -/
def CntSt (ba : Nat) (c : Nat) (W : World) : Prop := ∃ v : Int, W.heap[ba]? = some (.cells #[.int .i64 v] 3 (0, 0)) ∧ (c ≤ 4611686018427387904 → v = (c : Int))

theorem cnt_next {v : Int} {c : Nat} (h : c ≤ 4611686018427387904 → v = (c : Int)) : c + 1 ≤ 4611686018427387904 → wrap64 (v + 1) = ((c + 1 : Nat) : Int) := fun hc => by
  have := h (by omega)
  subst this
  rw [IntWalk.wrap64_in _ ⟨by omega, by omega⟩]
  rfl

set_option maxRecDepth 100000 in
set_option maxHeartbeats 1000000 in
theorem asks_spec (ba : Nat) : BSpec Try.prog 23 #[.pointer (some ⟨ba, 0, none⟩)] thV anyX (bk kRise) (CntSt ba) (fun k => k = ba) := by
  refine ⟨fun x y c W _ _ hst => ?_, enters_of Try.func23 (by kernel_rfl) rfl, fun c W W' G hst hf hn => ?_⟩
  · obtain ⟨xr, xm⟩ := x
    obtain ⟨yr, ym⟩ := y
    obtain ⟨v, hv, hc⟩ := hst
    have hlt := lt_of_heap hv
    have c0 : W.cell? ⟨ba, 0, none⟩ = some (.int .i64 v) := cell_is hv 0 rfl
    have f0 := frozen_of hv 0
    have HV := Lib.hid hv
    have HC := Lib.hid hc
    clear hv hc
    show Calls Try.prog 23 #[.agg #[.int .i64 xr, .int .i64 xm], .agg #[.int .i64 yr, .int .i64 ym], .pointer (some ⟨ba, 0, none⟩)] W _
    go_enter Try.func23, Try.ntmps23
    go_wp2_with (fail)
    go_ret
    refine ⟨rfl, (((Fr.refl (fun k => k = ba) W).setCell (p := ⟨ba, 0, none⟩) (.inl rfl) _).alloc _).alloc _, _, ?_, cnt_next HC.out⟩
    rw [heap_alloc_lt _ _ _ (by simp; omega), heap_alloc_lt _ _ _ (by simpa using hlt)]
    have := heap_setCell_eq 0 (.int .i64 (wrap64 (v + 1))) HV.out
    simpa using this
  · obtain ⟨v, hv, hc⟩ := hst
    exact ⟨v, hf.get hv (hn ba rfl), hc⟩

/-- The heap of the statement, behind k calls: so many asked, so many within. -/
def AF (w0 : World) (ba : Nat) : Nat → Prop := fun k => w0.heap.size ≤ k ∧ k ≠ ba

structure AskInv (w0 : World) (ba bh bm k c n : Nat) (W : World) : Prop where
  ok : ∃ (L : List (Int × (Int × Int))) (lv : Value) (m : List (Int × Value)) (g : Int), HRep 99 101 3 (AF w0 ba) W bh (.func (.func 23) #[] #[.pointer (some ⟨ba, 0, none⟩)]) g (L.map en) lv bm m ∧ 0 ≤ g ∧ g ≤ (k : Int) ∧ L.length = n ∧ (∀ p ∈ L, p.1 ≤ g)
  len : n ≤ k
  st : CntSt ba c W
  fr : Fr (fun _ => False) w0 W
  gb : w0.heap.size ≤ ba

theorem CntSt.lt {ba c : Nat} {W : World} (h : CntSt ba c W) : ba < W.heap.size := by
  obtain ⟨v, hv, _⟩ := h
  exact lt_of_heap hv

theorem AskInv.kept {w0 : World} {ba bh bm k c n : Nat} {W W' : World} (h : AskInv w0 ba bh bm k c n W) (hf : Fr (fun _ => False) W W') : AskInv w0 ba bh bm k c n W' := by
  obtain ⟨L, lv, m, g, hr, hg0, hg1, hn, ht⟩ := h.ok
  exact ⟨⟨L, lv, m, g, hr.fr hf (fun _ _ _ h => h), hg0, hg1, hn, ht⟩, h.len, (asks_spec ba).stab c W W' _ h.st hf (fun _ _ h => h), h.fr.trans hf (fun _ _ h => h), h.gb⟩

theorem AskInv.up {w0 : World} {ba bh bm k c n : Nat} {W : World} (h : AskInv w0 ba bh bm k c n W) : AskInv w0 ba bh bm (k + 1) c n W := by
  obtain ⟨L, lv, m, g, hr, hg0, hg1, hn, ht⟩ := h.ok
  exact ⟨⟨L, lv, m, g, hr, hg0, by omega, hn, ht⟩, Nat.le_succ_of_le h.len, h.st, h.fr, h.gb⟩

/-- What each call of the statement leaves. -/
def AskPost (w0 : World) (ba bh bm k c n : Nat) (e : Ending) (w' : World) : Prop := (∃ v, e = .returned v) ∧ ∃ c' n', c ≤ c' ∧ c' ≤ c + 8 * (Nat.log2 n + 1) ∧ AskInv w0 ba bh bm (k + 1) c' n' w'

section
variable {w0 : World} {ba bh bm k c n : Nat} {W : World}

theorem askF (h : AskInv w0 ba bh bm k c n W) : ∀ j, j = ba → ¬ (AF w0 ba j ∧ j < W.heap.size) ∧ j < W.heap.size := fun _ hj => ⟨fun hx => hx.1.2 hj, hj ▸ h.st.lt⟩

theorem ask_fr {W' : World} (h : AskInv w0 ba bh bm k c n W) (hf : Fr (fun j => (AF w0 ba j ∧ j < W.heap.size) ∨ j = ba) W W') : Fr (fun _ => False) w0 W' :=
  h.fr.trans hf (fun j hj hx => by
    rcases hx with hx | hx
    · have := hx.1.1
      omega
    · have := h.gb
      omega)

theorem asks_push (x : Int × Int) (h : AskInv w0 ba bh bm k c n W) (hk : k < 8796093022208) : Calls Try.prog 26 #[.pointer (some ⟨bh, 0, none⟩), thV x] W (AskPost w0 ba bh bm k c n) := by
  obtain ⟨L, lv, m, g, hr, hg0, hg1, hn, ht⟩ := h.ok
  subst hn
  have hkn := h.len
  refine (push_any (key := kRise) (asks_spec ba) x (hr.mono (G := fun j => AF w0 ba j ∧ j < W.heap.size) (fun j hj hF => ⟨hF, hj⟩)) hg0 (by omega) (by omega) ht (fun _ _ => trivial) trivial h.st (askF h)).mono ?_
  rintro e w' ⟨rfl, ⟨lv', m', hr'⟩, ⟨c', hc1, hc2, hs⟩, hf⟩
  have hl := log_succ L.length
  refine ⟨⟨_, rfl⟩, c', L.length + 1, hc1, by omega, ⟨⟨_, lv', m', g + 1, hr'.mono (fun j hj hF => ?_), by omega, by omega, ?_, fun p hp => ?_⟩, by omega, hs, ask_fr h hf, h.gb⟩⟩
  · rcases hF with hF | hF
    · exact hF.1
    · have h1 := h.fr.size
      have h2 := h.st.lt
      exact ⟨by omega, by omega⟩
  · rw [(pushL_perm _ _).length_eq, List.length_append, List.length_singleton]
  · rcases List.mem_append.1 ((pushL_perm _ _).mem_iff.1 hp) with hp | hp
    · have := ht p hp
      omega
    · simp only [List.mem_singleton] at hp
      subst hp
      exact Int.le_refl _

theorem ask_take {L : List (Int × (Int × Int))} {i : Nat} {a : Int × (Int × Int)} {g : Int} (hi : L[i]? = some a) (ht : ∀ p ∈ L, p.1 ≤ g) : (takeL kRise L i).length ≤ L.length ∧ ∀ p ∈ takeL kRise L i, p.1 ≤ g := by
  have hp := takeL_perm (key := kRise) hi
  refine ⟨?_, fun p h => ht p (hp.mem_iff.1 (List.mem_cons_of_mem _ h))⟩
  have := hp.length_eq
  rw [List.length_cons] at this
  omega

theorem asks_pop (h : AskInv w0 ba bh bm k c n W) (hk : k < 8796093022208) : Calls Try.prog 27 #[.pointer (some ⟨bh, 0, none⟩)] W (AskPost w0 ba bh bm k c n) := by
  obtain ⟨L, lv, m, g, hr, hg0, hg1, hn, ht⟩ := h.ok
  subst hn
  have hkn := h.len
  cases L with
  | nil =>
    refine (pop_none hr).mono ?_
    rintro e w' ⟨rfl, hf⟩
    exact ⟨⟨_, rfl⟩, c, _, Nat.le_refl _, by omega, (h.kept hf).up⟩
  | cons a L =>
    refine (pop_some (key := kRise) (asks_spec ba) (hr.mono (G := fun j => AF w0 ba j ∧ j < W.heap.size) (fun j hj hF => ⟨hF, hj⟩)) rfl (by omega) (fun _ _ => trivial) h.st (fun _ h => h.2) (askF h)).mono ?_
    rintro e w' ⟨rfl, ⟨lv', m', hr'⟩, ⟨c', hc1, hc2, hs⟩, hf⟩
    obtain ⟨h1, h2⟩ := ask_take (i := 0) rfl ht
    exact ⟨⟨_, rfl⟩, c', _, hc1, by omega, ⟨⟨_, lv', m', g, hr'.mono (fun j hj hF => hF.1), hg0, by omega, rfl, h2⟩, by omega, hs, ask_fr h hf, h.gb⟩⟩

theorem ticket_in (L : List (Int × (Int × Int))) (t : Int) : (∀ p ∈ L, p.1 ≠ t) ∨ ∃ (i : Nat) (a : Int × (Int × Int)), L[i]? = some a ∧ a.1 = t := by
  by_cases h : ∃ p ∈ L, p.1 = t
  · obtain ⟨p, hp, hpt⟩ := h
    obtain ⟨i, hi⟩ := List.getElem?_of_mem hp
    exact .inr ⟨i, p, hi, hpt⟩
  · exact .inl (fun p hp hpt => h ⟨p, hp, hpt⟩)

theorem asks_remove (t : Int) (h : AskInv w0 ba bh bm k c n W) (hk : k < 8796093022208) : Calls Try.prog 28 #[.pointer (some ⟨bh, 0, none⟩), .int .i64 t] W (AskPost w0 ba bh bm k c n) := by
  obtain ⟨L, lv, m, g, hr, hg0, hg1, hn, ht⟩ := h.ok
  subst hn
  have hkn := h.len
  rcases ticket_in L t with hno | ⟨i, a, hi, rfl⟩
  · refine (remove_none hr hno).mono ?_
    rintro e w' ⟨rfl, hf⟩
    exact ⟨⟨_, rfl⟩, c, _, Nat.le_refl _, by omega, (h.kept hf).up⟩
  · refine (remove_some (key := kRise) (asks_spec ba) (hr.mono (G := fun j => AF w0 ba j ∧ j < W.heap.size) (fun j hj hF => ⟨hF, hj⟩)) hi (by omega) (fun _ _ => trivial) h.st (fun _ h => h.2) (askF h)).mono ?_
    rintro e w' ⟨rfl, ⟨lv', m', hr'⟩, ⟨c', hc1, hc2, hs⟩, hf⟩
    obtain ⟨h1, h2⟩ := ask_take hi ht
    exact ⟨⟨_, rfl⟩, c', _, hc1, by omega, ⟨⟨_, lv', m', g, hr'.mono (fun j hj hF => hF.1), hg0, by omega, rfl, h2⟩, by omega, hs, ask_fr h hf, h.gb⟩⟩

theorem asks_change (t : Int) (x : Int × Int) (h : AskInv w0 ba bh bm k c n W) (hk : k < 8796093022208) : Calls Try.prog 29 #[.pointer (some ⟨bh, 0, none⟩), .int .i64 t, thV x] W (AskPost w0 ba bh bm k c n) := by
  obtain ⟨L, lv, m, g, hr, hg0, hg1, hn, ht⟩ := h.ok
  subst hn
  have hkn := h.len
  rcases ticket_in L t with hno | ⟨i, a, hi, rfl⟩
  · refine (change_none x hr hno).mono ?_
    rintro e w' ⟨rfl, hf⟩
    exact ⟨⟨_, rfl⟩, c, _, Nat.le_refl _, by omega, (h.kept hf).up⟩
  · refine (change_some (key := kRise) (asks_spec ba) x (hr.mono (G := fun j => AF w0 ba j ∧ j < W.heap.size) (fun j hj hF => ⟨hF, hj⟩)) hi (by omega) (fun _ _ => trivial) trivial h.st (askF h)).mono ?_
    rintro e w' ⟨rfl, ⟨m', hr'⟩, ⟨c', hc1, hc2, hs⟩, hf⟩
    have hl : (settleL kRise (L.set i (a.1, x)) i).length = L.length := by rw [settleL_length, List.length_set]
    refine ⟨⟨_, rfl⟩, c', _, hc1, by omega, ⟨⟨_, lv, m', g, hr'.mono (fun j hj hF => hF.1), hg0, by omega, rfl, fun p hp => ?_⟩, by omega, hs, ask_fr h hf, h.gb⟩⟩
    rcases List.mem_or_eq_of_mem_set ((settleL_perm _ _).mem_iff.1 hp) with hp | rfl
    · exact ht p hp
    · exact ht a (List.mem_of_getElem? hi)

theorem asks_len (h : AskInv w0 ba bh bm k c n W) : Calls Try.prog 25 #[.pointer (some ⟨bh, 0, none⟩)] W fun e w' => e = .returned (.int .i64 (n : Int)) ∧ w' = W := by
  obtain ⟨L, lv, m, g, hr, hg0, hg1, hn, ht⟩ := h.ok
  subst hn
  exact (len_any hr).mono fun _ _ ⟨he, hw⟩ => ⟨he, hw.symm⟩
end

end Go.Proofs.Ytikimfdijkejpaa.HT
