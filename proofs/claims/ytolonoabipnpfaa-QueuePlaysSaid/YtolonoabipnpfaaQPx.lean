/- QueuePlays: a queue of the program's beside the document's; what a call does to the two. -/
import Derived.Test.YtolonoabipnpfaaQRef3
import Derived.Test.YtolonoabipnpfaaQFoot
import Derived.Test.YtolonoabipnpfaaQIClone
import Derived.Test.YtolonoabipnpfaaQShown
namespace Go.Proofs.Ytolonoabipnpfaa
open Go.RowKit Go.Sb

structure Pr where
  bq : Nat
  bm : Nat
  br : Nat
  tv : Value
  sv : Value
  g : Int
  l : List Nd
  xs : List (Int × Int)

def rfoot (br : Nat) (tv sv : Value) : Nat → Prop := fun k => k = br ∨ tv.ownBlock = some k ∨ sv.ownBlock = some k
def Pr.foot (p : Pr) : Nat → Prop := fun k => Sb.foot p.bq p.bm p.l k ∨ rfoot p.br p.tv p.sv k
def ix (x : Int × Int) : Int × Value := (x.1, .int .i64 x.2)

theorem RRep.exact {F : Nat → Prop} {w : World} {br : Nat} {tv sv : Value} {g : Int} {L : List (Int × Int)} (h : RRep F w br tv sv g L) : RRep (rfoot br tv sv) w br tv sv g L := by
  have ho : ∀ {v : Value} {n : Nat} {xs : List Value} {G : Nat → Prop}, Sb.Own 3 1 F w v n xs → (∀ k, v.ownBlock = some k → G k) → Sb.Own 3 1 G w v n xs := fun h' hG => by
    obtain ⟨h1, h2⟩ := h'
    refine ⟨h1, h2.imp id ?_⟩
    rintro ⟨g, cap, cur, rfl, _, hg, r⟩
    exact ⟨g, cap, cur, rfl, hG g rfl, hg, r⟩
  exact ⟨h.head, ho h.ts (fun k hk => .inr (.inl hk)), ho h.xs (fun k hk => .inr (.inr hk)), h.apart, .inl rfl⟩

theorem RRep.foot_in {F : Nat → Prop} {w : World} {br : Nat} {tv sv : Value} {g : Int} {L : List (Int × Int)} (h : RRep F w br tv sv g L) : ∀ k, rfoot br tv sv k → F k := by
  rintro k (rfl | hk | hk)
  · exact h.fb
  · exact (h.ts.block k hk).1
  · exact (h.xs.block k hk).1

/-- The blocks of the document's queue are cells of two types. -/
theorem RRep.foot_cells {F : Nat → Prop} {w : World} {br : Nat} {tv sv : Value} {g : Int} {L : List (Int × Int)} (h : RRep F w br tv sv g L) {k : Nat} (hk : rfoot br tv sv k) : ∃ cs, w.heap[k]? = some (.cells cs 29 (0, 0)) ∨ w.heap[k]? = some (.cells cs 3 (0, 0)) := by
  have ho : ∀ {v : Value} {n : Nat} {xs : List Value}, Sb.Own 3 1 F w v n xs → v.ownBlock = some k → ∃ cs, w.heap[k]? = some (.cells cs 3 (0, 0)) := fun h' hb => by
    rcases h'.2 with ⟨rfl, _⟩ | ⟨g, cap, cur, rfl, _, hg, _⟩
    · cases hb
    · simp only [Value.ownBlock, Option.some.injEq] at hb
      subst hb
      exact ⟨_, hg⟩
  rcases hk with rfl | hk | hk
  · exact ⟨_, .inl h.head⟩
  · obtain ⟨cs, h'⟩ := ho h.ts hk
    exact ⟨cs, .inr h'⟩
  · obtain ⟨cs, h'⟩ := ho h.xs hk
    exact ⟨cs, .inr h'⟩

/-- The two queues are alike. -/
structure PRep (w : World) (p : Pr) : Prop where
  q : QRep 93 96 (Sb.foot p.bq p.bm p.l) w p.bq p.g p.l p.bm
  r : RRep (rfoot p.br p.tv p.sv) w p.br p.tv p.sv p.g p.xs
  same : p.l.map nv = p.xs.map ix
  g0 : 0 ≤ p.g
  le : ∀ n ∈ p.l, n.t ≤ p.g
  len : (p.xs.length : Int) ≤ p.g

theorem PRep.lt {w : World} {p : Pr} (h : PRep w p) : ∀ k, p.foot k → k < w.heap.size := by
  rintro k (hk | hk)
  · exact h.q.foot_lt k hk
  · obtain ⟨cs, hc | hc⟩ := h.r.foot_cells hk <;> exact lt_of_heap hc

theorem PRep.dj {w : World} {p : Pr} (h : PRep w p) : ∀ k, Sb.foot p.bq p.bm p.l k → ¬ rfoot p.br p.tv p.sv k := fun k h1 h2 => by
  obtain ⟨cs, hc | hc⟩ := h.r.foot_cells h2
  · exact h.q.foot_not hc (by decide) (by decide) h1
  · exact h.q.foot_not hc (by decide) (by decide) h1

/-- a block of a type that no queue has -/
theorem PRep.not {w : World} {p : Pr} (h : PRep w p) {b : Nat} {cs : Array Value} {T : TypeId} (hb : w.heap[b]? = some (.cells cs T (0, 0))) (h1 : T ≠ 93) (h2 : T ≠ 96) (h3 : T ≠ 29) (h4 : T ≠ 3) : ¬ p.foot b := by
  rintro (hk | hk)
  · exact h.q.foot_not hb h1 h2 hk
  · obtain ⟨cs', hc | hc⟩ := h.r.foot_cells hk
    · exact ne_of_types hb hc h3 rfl
    · exact ne_of_types hb hc h4 rfl

theorem PRep.of {w w' : World} {p : Pr} (h : PRep w p) (hk : ∀ k, p.foot k → w'.heap[k]? = w.heap[k]?) : PRep w' p :=
  ⟨h.q.of (fun k _ h' => hk k (.inl h')), h.r.of (fun k _ h' => hk k (.inr h')), h.same, h.g0, h.le, h.len⟩

theorem PRep.fr {w w' : World} {p : Pr} {G : Nat → Prop} (h : PRep w p) (hf : Fr G w w') (hG : ∀ k, p.foot k → ¬ G k) : PRep w' p :=
  h.of (fun k hk => hf.block k (h.lt k hk) (hG k hk))

/-- p has become p' -/
structure PTurn (w w' : World) (p p' : Pr) : Prop where
  rep : PRep w' p'
  bq : p'.bq = p.bq
  bm : p'.bm = p.bm
  br : p'.br = p.br
  fr : Fr p.foot w w'
  fo : ∀ k, p'.foot k → p.foot k ∨ w.heap.size ≤ k

theorem PTurn.refl {w : World} {p : Pr} (h : PRep w p) : PTurn w w p p := ⟨h, rfl, rfl, rfl, Fr.refl _ _, fun _ h => .inl h⟩
theorem PTurn.trans {a b c : World} {p q r : Pr} (h : PTurn a b p q) (k : PTurn b c q r) : PTurn a c p r :=
  ⟨k.rep, k.bq.trans h.bq, k.bm.trans h.bm, k.br.trans h.br, h.fr.trans k.fr (fun i hi hq => (h.fo i hq).elim id (fun h' => by omega)),
    fun i hi => (k.fo i hi).elim (fun h' => h.fo i h') (fun h' => .inr (Nat.le_trans h.fr.size h'))⟩
theorem PTurn.none {a b c : World} {p q : Pr} (h : PTurn a b p q) (hf : Fr (fun _ => False) b c) : PTurn a c p q :=
  ⟨h.rep.fr hf (fun _ _ h => h), h.bq, h.bm, h.br, h.fr.trans hf (fun _ _ h => h.elim), h.fo⟩
theorem PTurn.ahead {a b c : World} {p q : Pr} (hf : Fr (fun _ => False) a b) (h : PTurn b c p q) : PTurn a c p q :=
  ⟨h.rep, h.bq, h.bm, h.br, (hf.mono (fun _ _ h => h.elim)).trans h.fr (fun _ _ h => h), fun k hk => (h.fo k hk).imp id (Nat.le_trans hf.size)⟩

theorem nv_t (l : List Nd) : l.map Nd.t = (l.map nv).map Prod.fst := by rw [List.map_map]; rfl
theorem ix_t (xs : List (Int × Int)) : (xs.map ix).map Prod.fst = xs.map Prod.fst := by rw [List.map_map]; rfl

theorem PRep.keys {w : World} {p : Pr} (h : PRep w p) : (p.xs.map Prod.fst).Nodup := by
  have := h.q.keys
  rwa [nv_t, h.same, ix_t] at this

theorem PRep.lens {w : World} {p : Pr} (h : PRep w p) : p.l.length = p.xs.length := by
  have := congrArg List.length h.same
  simpa using this

/-- a ticket that nobody has -/
theorem PRep.absent {w : World} {p : Pr} (h : PRep w p) {t : Int} (ht : t ∉ p.xs.map Prod.fst) : t ∉ p.l.map Nd.t ∧ ∀ x ∈ p.xs, x.1 ≠ t := by
  refine ⟨by rwa [nv_t, h.same, ix_t], fun x hx e => ht (e ▸ List.mem_map_of_mem hx)⟩

/-- one that somebody has -/
theorem PRep.present {w : World} {p : Pr} (h : PRep w p) {t : Int} (ht : t ∈ p.xs.map Prod.fst) : ∃ us vs x lu lv b, p.xs = us ++ (t, x) :: vs ∧ p.l = lu ++ ⟨b, t, .int .i64 x⟩ :: lv ∧ lu.map nv = us.map ix ∧ lv.map nv = vs.map ix ∧ ∀ q ∈ us, q.1 ≠ t := by
  obtain ⟨⟨t', x⟩, hm, rfl⟩ := List.mem_map.1 ht
  obtain ⟨us, vs, hs⟩ := List.append_of_mem hm
  have hsame := h.same
  rw [hs, List.map_append, List.map_cons] at hsame
  obtain ⟨lu, lr, hl, h1, h2⟩ := List.map_eq_append_iff.1 hsame
  obtain ⟨n, lv, rfl, h3, h4⟩ := List.map_eq_cons_iff.1 h2
  refine ⟨us, vs, x, lu, lv, n.b, hs, ?_, h1, h4, fun q hq e => ?_⟩
  · rw [hl]
    obtain ⟨b, t, v⟩ := n
    simp only [nv, ix, Prod.mk.injEq] at h3
    obtain ⟨rfl, rfl⟩ := h3
    rfl
  · have hk := h.keys
    rw [hs, List.map_append, List.map_cons, List.nodup_append] at hk
    exact hk.2.2 _ (List.mem_map_of_mem hq) t' (by simp) e

theorem PRep.turn {w w1 w2 : World} {p : Pr} (h : PRep w p) {g' : Int} {l' : List Nd} {xs' : List (Int × Int)} {tv' sv' : Value} (q1 : QRep 93 96 (ex (Sb.foot p.bq p.bm p.l) w) w1 p.bq g' l' p.bm) (f1 : Fr (Sb.foot p.bq p.bm p.l) w w1)
    (r2 : RRep (ex (rfoot p.br p.tv p.sv) w1) w2 p.br tv' sv' g' xs') (f2 : Fr (rfoot p.br p.tv p.sv) w1 w2) (hs : l'.map nv = xs'.map ix) (h0 : 0 ≤ g') (hle : ∀ n ∈ l', n.t ≤ g') (hlen : (xs'.length : Int) ≤ g') :
    ∃ p' : Pr, PTurn w w2 p p' ∧ p'.g = g' ∧ p'.xs = xs' := by
  have hq : ∀ k, Sb.foot p.bq p.bm l' k → Sb.foot p.bq p.bm p.l k ∨ w.heap.size ≤ k := fun k hk => q1.foot_in k hk
  have hr : ∀ k, rfoot p.br tv' sv' k → rfoot p.br p.tv p.sv k ∨ w.heap.size ≤ k := fun k hk => (r2.foot_in k hk).imp id (Nat.le_trans f1.size)
  refine ⟨⟨p.bq, p.bm, p.br, tv', sv', g', l', xs'⟩, ⟨⟨q1.exact.fr f2 (fun k _ hk hk' => ?_), r2.exact, hs, h0, hle, hlen⟩, rfl, rfl, rfl, (f1.mono (fun k _ hk => .inl hk)).trans f2 (fun k _ hk => .inr hk), fun k hk => ?_⟩, rfl, rfl⟩
  · rcases hq k hk with hk | hk
    · exact h.dj k hk hk'
    · have := h.lt k (.inr hk')
      omega
  · rcases hk with hk | hk
    · exact (hq k hk).imp .inl id
    · exact (hr k hk).imp .inr id

/-- What 'leave' leaves behind. -/
def LeftPost (w : World) (p : Pr) (t : Int) (e : Ending) (w' : World) : Prop :=
  e = .returned (.bool true) ∧ ∃ p' : Pr, PTurn w w' p p' ∧ p'.g = p.g ∧ p'.xs.length ≤ p.xs.length ∧ p'.xs = p.xs.filter (fun x => x.1 != t)

theorem filter_all {xs : List (Int × Int)} {t : Int} (h : ∀ x ∈ xs, x.1 ≠ t) : xs.filter (fun x => x.1 != t) = xs := by
  rw [List.filter_eq_self]
  intro x hx
  simpa using h x hx

set_option maxRecDepth 100000 in
set_option maxHeartbeats 1000000 in
theorem leave_pair (w : World) (p : Pr) (t : Int) (h : PRep w p) (hg : p.g ≤ 4398046511104) :
    Calls Try.prog 39 #[.agg #[.pointer (some ⟨p.bq, 0, none⟩), .pointer (some ⟨p.br, 0, none⟩)], .int .i64 t] w (LeftPost w p t) := by
  have hf0 : Fr (fun _ => False) w (w.alloc (.cells #[.pointer (some ⟨p.bq, 0, none⟩), .pointer (some ⟨p.br, 0, none⟩)] 60)) := (Fr.refl _ w).alloc _
  have hb := heap_alloc_eq w (.cells #[.pointer (some ⟨p.bq, 0, none⟩), .pointer (some ⟨p.br, 0, none⟩)] 60)
  have h1 := h.fr hf0 (fun _ _ h => h)
  have hlen := h.len
  have HF0 := Lib.hid hf0
  have HB := Lib.hid hb
  have H1 := Lib.hid h1
  clear h hf0 hb h1
  by_cases ht : t ∈ p.xs.map Prod.fst
  · obtain ⟨us, vs, x, lu, lv, b, hxs, hl, hlu, hlv, hus⟩ := H1.out.present ht
    have HX := Lib.hid hxs
    have HL := Lib.hid hl
    have HUS := Lib.hid hus
    have HLUV := Lib.hid (And.intro hlu hlv)
    clear ht hxs hl hus hlu hlv
    go_enter Try.func39, Try.ntmps39
    go_wp2_with (fail)
    generalize hbp : w.heap.size = bp at *
    generalize hw1 : w.alloc (.cells #[.pointer (some ⟨p.bq, 0, none⟩), .pointer (some ⟨p.br, 0, none⟩)] 60) = w1 at *
    refine (QI.leave_any (Sb.foot p.bq p.bm p.l) p.bq p.bm p.g t b x w1 p.l lu lv H1.out.q HL.out).mono ?_
    rintro e w2 ⟨rfl, hq2, hf2⟩
    have HQ2 := Lib.hid hq2
    have HF2 := Lib.hid hf2
    have hb2 := hf2.get HB.out (H1.out.q.foot_not HB.out (by decide) (by decide))
    have d1 : w2.cell? ⟨bp, 1, none⟩ = some (.pointer (some ⟨p.br, 0, none⟩)) := cell_is hb2 1 rfl
    have HR2 := Lib.hid (H1.out.r.fr hf2 (fun k _ hk hk' => H1.out.dj k hk' hk))
    clear hq2 hf2 hb2
    go_wp2_with (fail)
    refine (rleave_some (rfoot p.br p.tv p.sv) p.br p.tv p.sv p.g t x p.xs us vs w2 HR2.out (by omega) HX.out HUS.out).mono ?_
    rintro e w3 ⟨rfl, ⟨tv', sv', hr3⟩, hf3⟩
    have HR3 := Lib.hid hr3
    have HF3 := Lib.hid hf3
    clear hr3 hf3
    go_wp2_with (fail)
    go_ret
    have hlen3 : (us ++ vs).length ≤ p.xs.length := by rw [HX.out]; simp
    obtain ⟨p', hp, hg', hx'⟩ := H1.out.turn (HQ2.out.mono (fun k _ hk => .inl hk)) HF2.out HR3.out HF3.out (by rw [List.map_append, List.map_append, HLUV.out.1, HLUV.out.2]) H1.out.g0 (fun n hn => H1.out.le n (by rw [HL.out]; simp at hn ⊢; rcases hn with hn | hn <;> simp [hn])) (by omega)
    refine ⟨rfl, p', hp.ahead HF0.out, hg', by rw [hx']; exact hlen3, ?_⟩
    rw [hx', HX.out, List.filter_append, List.filter_cons_of_neg (by simp), filter_all HUS.out]
    congr 1
    refine (filter_all (fun y hy e => ?_)).symm
    have hk := H1.out.keys
    rw [HX.out, List.map_append, List.map_cons, List.nodup_append, List.nodup_cons] at hk
    have hm := List.mem_map_of_mem (f := Prod.fst) hy
    rw [e] at hm
    exact hk.2.1.1 hm
  · obtain ⟨hn1, hn2⟩ := H1.out.absent ht
    have HN1 := Lib.hid hn1
    have HN2 := Lib.hid hn2
    clear ht hn1 hn2
    go_enter Try.func39, Try.ntmps39
    go_wp2_with (fail)
    refine (QI.leave_none (Sb.foot p.bq p.bm p.l) p.bq p.bm p.g t _ p.l H1.out.q HN1.out).mono ?_
    rintro e w2 ⟨rfl, rfl⟩
    go_wp2_with (fail)
    refine (rleave_none (rfoot p.br p.tv p.sv) p.br p.tv p.sv p.g t p.xs _ H1.out.r (by omega) HN2.out).mono ?_
    rintro e w3 ⟨rfl, rfl⟩
    go_wp2_with (fail)
    go_ret
    exact ⟨rfl, p, (PTurn.refl H1.out).ahead HF0.out, rfl, Nat.le_refl _, (filter_all HN2.out).symm⟩

end Go.Proofs.Ytolonoabipnpfaa
