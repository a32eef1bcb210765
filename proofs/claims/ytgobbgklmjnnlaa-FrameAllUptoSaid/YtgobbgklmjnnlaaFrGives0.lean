/- What 'gives' keeps between its rounds. -/
import Derived.Test.YtgobbgklmjnnlaaFrAllR
import Derived.Test.YtgobbgklmjnnlaaFrMakes0
import Derived.Test.YtgobbgklmjnnlaaFrPlain
import Derived.Test.YtgobbgklmjnnlaaRangeFresh2
namespace Go.Proofs.Ytgobbgklmjnnlaa
open Go.RowKit Go.Sb

theorem held_cells {TH R E : TypeId} {F : Nat → Prop} {w w' : World} {A : Nat → Prop} {h : Nat} {vo vw : Value} {rest : List Value} {L : List Ent} (hh : Held TH R E F w A h vo vw rest L)
    (hk : ∀ (k : Nat) (o : Obj), w.heap[k]? = some o → o.isCells = true → w'.heap[k]? = w.heap[k]?) : Held TH R E F w' A h vo vw rest L := by
  have hc : ∀ (k : Nat) (cs : Array Value) (T : TypeId), w.heap[k]? = some (Obj.cells cs T (0, 0)) → w'.heap[k]? = w.heap[k]? := fun k cs T h => hk k _ h rfl
  have ho : ∀ {z n : Nat} {v : Value} {xs : List Value} {E : TypeId}, Sb.Own E z F w v n xs → Sb.Own E z F w' v n xs := fun h => h.of (fun k hk hb => by
    rcases h.2 with ⟨rfl, _⟩ | ⟨g, cap, cur, rfl, _, hg, _⟩
    · cases hb
    · simp only [Value.ownBlock, Option.some.injEq] at hb
      subst hb
      exact hc _ _ _ hg)
  exact ⟨⟨(hc _ _ _ hh.rows.head).trans hh.rows.head, hh.rows.mine, ho hh.rows.outs, ho hh.rows.wants, hh.rows.apart⟩, hh.pile.of (fun k cs _ h => hc k cs _ h)⟩

/-- The frames handed out so far are held; of what lay at w1 only h and the number's box have turned. -/
structure GSt (w1 : World) (h b15 M : Nat) (W : World) : Prop where
  held : ∃ vo vw L, Held 29 22 5 (fun k => k = h ∨ w1.heap.size ≤ k) W (fun _ => True) h vo vw [] L ∧ Lim 66008 L ∧ L.length ≤ M
  fr : Fr (fun k => k = h ∨ k = b15) w1 W

theorem GSt.grown {w1 : World} {h b15 M : Nat} {A B : World} {row : Option Nat} (s : GSt w1 h b15 M A) (hg : A.grownBy B row) (hr : ∀ r, row = some r → w1.heap.size ≤ r ∧ ∃ o : Obj, A.heap[r]? = some o ∧ o.isCells = false) : GSt w1 h b15 M B := by
  obtain ⟨vo, vw, L, hh, hl⟩ := s.held
  refine ⟨⟨vo, vw, L, held_cells hh (fun k o hk hc => hg.block k (lt_of_heap hk) (fun e => ?_)), hl⟩, s.fr.grown hg (fun k e => .inr (hr k e).1)⟩
  obtain ⟨_, o', h1, h2⟩ := hr k e.symm
  rw [hk] at h1
  cases h1
  rw [hc] at h2
  cases h2

theorem GSt.later {w1 : World} {h b15 M : Nat} {A B : World} (s : GSt w1 h b15 M A) (hf : Fr (fun _ => False) A B) : GSt w1 h b15 M B := by
  obtain ⟨vo, vw, L, hh, hl⟩ := s.held
  exact ⟨⟨vo, vw, L, hh.none hf, hl⟩, s.fr.trans hf (fun _ _ h => h.elim)⟩

theorem GSt.setN {w1 : World} {h b15 M : Nat} {A : World} (s : GSt w1 h b15 M A) (hb : b15 < w1.heap.size) (hne : b15 ≠ h) (v : Value) : GSt w1 h b15 M (A.setCell ⟨b15, 0, none⟩ v) := by
  obtain ⟨vo, vw, L, hh, hl⟩ := s.held
  refine ⟨⟨vo, vw, L, hh.fr ((Fr.refl (fun k => k = b15) _).setCell (p := ⟨b15, 0, none⟩) (.inl rfl) _) (fun k hk e => ?_), hl⟩, s.fr.setCell (p := ⟨b15, 0, none⟩) (.inl (.inr rfl)) _⟩
  rcases hk with rfl | hk
  · exact hne e.symm
  · omega

theorem keepsFrom_fr {G : Nat → Prop} {B : Nat} {W W' : World} (hf : Fr G W W') (hc : ∀ k o, G k → W.heap[k]? = some o → o.isCells = true) : KeepsFrom B W W' :=
  ⟨hf.size, fun k o _ hk ho => by
    by_cases hG : G k
    · rw [hc k o hG hk] at ho; cases ho
    · exact hf.get hk hG⟩

theorem own_isCells {E : TypeId} {z : Nat} {F : Nat → Prop} {w : World} {v : Value} {n : Nat} {xs : List Value} (h : Sb.Own E z F w v n xs) {k : Nat} (hk : v.ownBlock = some k) {o : Obj} (ho : w.heap[k]? = some o) : o.isCells = true := by
  rcases h.2 with ⟨rfl, _⟩ | ⟨g, cap, cur, rfl, _, hg, _⟩
  · cases hk
  · simp only [Value.ownBlock, Option.some.injEq] at hk
    subst hk
    rw [hg] at ho
    cases ho
    rfl

theorem keep_both {F : Nat → Prop} (w : World) (h : Nat) (vo vw : Value) (L : List Ent) (b : Value) (xs : List UInt8) (hh : Held 29 22 5 F w (fun _ => True) h vo vw [] L) (hb : OB 5 F w b xs) (hF : ∀ k, w.heap.size ≤ k → F k)
    (hap : ∀ (j : Nat) (e : Ent), L[j]? = some e → Apart b e.out ∧ Apart b e.want) (hm : xs.length ≤ 140737488360000) (hn : L.length ≤ 1099511627776) :
    Calls Try.prog 22 #[.pointer (some ⟨h, 0, none⟩), b] w fun e w' => ∃ vo' vw' c, e = .returned (.tuple #[]) ∧ Held 29 22 5 F w' (fun _ => True) h vo' vw' [] (L ++ [⟨b, c, xs⟩]) ∧ Fr F w w' ∧ KeepsFrom 0 w w' := by
  refine (keep_any w h vo vw L b xs hh.rows hb.rb hF hm hn).mono ?_
  rintro e w' ⟨vo', vw', c, he, hr, hc, hf⟩
  have hp := hh.rows.pile hh.pile hf (by decide) (by decide)
  have hb' : OB 5 F w' b xs := OB.of hb (hh.rows.blk hf (by decide) (by decide) hb.rd.2)
  have hc' : OB 5 F w' c xs := Own.mono hc (fun k _ hk => hF k hk)
  have cbig : ∀ k, c.ownBlock = some k → w.heap.size ≤ k := fun k hk => (Own.block hc k hk).1
  have hk := hp.keep hb' hc' (fun k hk hk' => by have := cbig k hk'; have := (Own.block hb k hk).2; omega) (fun j e he => by
    obtain ⟨h1, h2⟩ := hap j e he
    refine ⟨h1, h2, fun k hk hk' => ?_, fun k hk hk' => ?_⟩
    · have := cbig k hk; have := hh.pile.lt he (.inl hk'); omega
    · have := cbig k hk; have := hh.pile.lt he (.inr hk'); omega)
  refine ⟨vo', vw', c, he, ⟨hr, hk.lift (fun j hj _ => by simp at hj ⊢; omega)⟩, hh.rows.frF hf, keepsFrom_fr hf (fun k o hG hk => ?_)⟩
  rcases hG with rfl | hG | hG
  · rw [hh.rows.head] at hk
    cases hk
    rfl
  · exact own_isCells hh.rows.outs hG hk
  · exact own_isCells hh.rows.wants hG hk

/-- what a keep of a frame leaves -/
def GKept (w1 : World) (h b15 M : Nat) (W : World) (e : Ending) (w' : World) : Prop :=
  e = .returned (.tuple #[]) ∧ GSt w1 h b15 (M + 1) w' ∧ Fr (fun k => k = h ∨ w1.heap.size ≤ k) W w' ∧ KeepsFrom 0 W w'

theorem GSt.keep {w1 : World} {h b15 M : Nat} {W1 W : World} (s : GSt w1 h b15 M W1) (hf : Fr (fun _ => False) W1 W) {v : Value} {xs : List UInt8} (hb : OB 5 (fun k => W1.heap.size ≤ k) W v xs) (hx : xs.length ≤ 66008) (hM : M ≤ 1099511627776) :
    Calls Try.prog 22 #[.pointer (some ⟨h, 0, none⟩), v] W (GKept w1 h b15 M W) := by
  obtain ⟨vo, vw, L, hh, hl, hn⟩ := s.held
  have hs := s.fr.size
  have hs2 := hf.size
  refine (keep_both W h vo vw L v xs (hh.none hf) (Own.mono hb (fun k _ hk => .inr (Nat.le_trans hs hk))) (fun k hk => .inr (by omega)) (held_apart hh (fun k hk => (Own.block hb k hk).1)) (by omega) (by omega)).mono ?_
  rintro e w' ⟨vo', vw', d, he, hh', hfr, hkf⟩
  refine ⟨he, ⟨⟨vo', vw', _, hh', fun j e he => ?_, by simp; omega⟩, (s.fr.trans hf (fun _ _ h => h.elim)).trans hfr (fun k hk h => h.elim .inl (fun h => by omega))⟩, hfr, hkf⟩
  rcases get_snoc he with ⟨he, _⟩ | ⟨_, rfl⟩
  · exact hl j e he
  · exact hx

theorem fs_short (file : Int) : ∀ (k p : Nat) (bs : List UInt8) (q : Int × List UInt8), q ∈ fsAt file k p bs → q.2.length ≤ 66000
  | 0, _, _, _, h => by simp [fsAt] at h
  | k + 1, p, bs, q, h => by
    unfold fsAt at h
    by_cases he : errOf file (p : Int) bs = 0
    · rw [if_pos he] at h
      have hl := errOf_len he
      rcases List.mem_cons.1 h with rfl | h
      · rw [payOf_length hl.1]
        omega
      · exact fs_short file k _ _ q h
    · rw [if_neg he] at h
      simp at h

/-- The next frame that an iterator gives is the next of the list. -/
theorem next_is {file : Int} {bs : List UInt8} {ws pre : List Fd} {x : Fd} (hw : ws.map Fd.key = frames file 0 bs) (h : (pre ++ [x]).map Fd.key <+: frames file 0 bs) :
    ∃ y, ws[pre.length]? = some y ∧ y.p = x.p ∧ y.xs = x.xs ∧ pre.length < ws.length ∧ x.xs.length ≤ 66000 := by
  have hs : x.xs.length ≤ 66000 := fs_short file _ _ _ _ (h.subset (show x.key ∈ _ by simp))
  have hg : (frames file 0 bs)[pre.length]? = some x.key := by
    obtain ⟨r, hr⟩ := h
    rw [← hr, List.map_append, List.append_assoc, List.getElem?_append_right (by simp)]
    simp
  rw [← hw, List.getElem?_map] at hg
  obtain ⟨y, hy, hk⟩ := Option.map_eq_some_iff.1 hg
  simp only [Fd.key, Prod.mk.injEq] at hk
  exact ⟨y, hy, hk.1, hk.2, (List.getElem?_eq_some_iff.1 hy).1, hs⟩

theorem own_nn' {E : TypeId} {size : Nat} {F : Nat → Prop} {w : World} {v : Value} {n : Nat} {xs : List Value} (h : Sb.Own E size F w v n xs) (hn : v ≠ .slice none 0 0) : ∃ g c, v = .slice (some ⟨g, 0, none⟩) n c := by
  rcases h.shape with ⟨h1, _⟩ | ⟨g, cap, h1, _⟩
  · exact absurd h1 hn
  · exact ⟨g, cap, h1⟩

structure GBox (b : Nat) (wv : Value) (most : Int) (h : Nat) (W : World) : Prop where
  c7 : W.heap[b]? = some (.cells #[wv] 44 (0, 0))
  c8 : W.heap[b + 1]? = some (.cells #[.int .i64 most] 3 (0, 0))
  c9 : W.heap[b + 1 + 1]? = some (.cells #[.pointer (some ⟨h, 0, none⟩)] 48 (0, 0))
  c10 : W.heap[b + 1 + 1 + 1]? = some (.cells #[.bool false] 4 (0, 0))

theorem GBox.kept {b : Nat} {wv : Value} {most : Int} {h : Nat} {W W' : World} {G : Nat → Prop} (s : GBox b wv most h W) (hf : Fr G W W') (hG : ∀ k, b ≤ k → k < b + 4 → ¬ G k) : GBox b wv most h W' :=
  ⟨hf.get s.c7 (hG _ (by omega) (by omega)), hf.get s.c8 (hG _ (by omega) (by omega)), hf.get s.c9 (hG _ (by omega) (by omega)), hf.get s.c10 (hG _ (by omega) (by omega))⟩

theorem gbox_new (w : World) (wv : Value) (most : Int) (h : Nat) : GBox w.heap.size wv most h ((((w.alloc (.cells #[wv] 44)).alloc (.cells #[.int .i64 most] 3)).alloc (.cells #[.pointer (some ⟨h, 0, none⟩)] 48)).alloc (.cells #[.bool false] 4)) := by
  refine ⟨?_, ?_, ?_, ?_⟩
  · exact (heap_alloc_lt _ _ _ (by simp; omega)).trans ((heap_alloc_lt _ _ _ (by simp; omega)).trans ((heap_alloc_lt _ _ _ (by simp)).trans (heap_alloc_eq _ _)))
  · exact (heap_alloc_lt _ _ _ (by simp)).trans ((heap_alloc_lt _ _ _ (by simp)).trans (heap_alloc_at _ _ _ (by simp)))
  · exact (heap_alloc_lt _ _ _ (by simp)).trans (heap_alloc_at _ _ _ (by simp))
  · exact heap_alloc_at _ _ _ (by simp)

def WrRel (w2 : World) (g : Nat) (v : Value) (n : Nat) (i : Value) (wr : World) : Prop :=
  ∃ (k : Nat) (zs : List UInt8), i = .int .i64 (k : Int) ∧ k ≤ n ∧ zs.length = n ∧ OB 5 (fun _ => True) wr v zs ∧ Fr (fun x => x = g) w2 wr

theorem WRep.apart {Fw : Nat → Prop} {w : World} {l : Value} {ws : List Fd} {h : Nat} {cs : Array Value} (hw : WRep Fw w l ws) (hh : w.heap[h]? = some (.cells cs 29 (0, 0))) : WRep (fun k => k < w.heap.size ∧ k ≠ h) w l ws := by
  have ho : ∀ {E : TypeId} {z n : Nat} {v : Value} {xs : List Value}, 29 ≠ E → Sb.Own E z Fw w v n xs → Sb.Own E z (fun k => k < w.heap.size ∧ k ≠ h) w v n xs := fun hne h' => by
    obtain ⟨h1, h2⟩ := h'
    refine ⟨h1, h2.imp id ?_⟩
    rintro ⟨g, cap, cur, hv, _, hg, r⟩
    exact ⟨g, cap, cur, hv, ⟨lt_of_heap hg, fun e => ne_of_types hh hg hne e.symm⟩, hg, r⟩
  exact ⟨ho (by decide) hw.own, fun x hx => ho (by decide) (hw.each x hx)⟩

theorem own_here {E : TypeId} {z : Nat} {F : Nat → Prop} {w : World} {g n m c : Nat} {xs : List Value} (h : Sb.Own E z F w (.slice (some ⟨g, 0, none⟩) n c) m xs) : Sb.Own E z (fun k => k = g) w (.slice (some ⟨g, 0, none⟩) n c) m xs := by
  obtain ⟨h1, h2⟩ := h
  refine ⟨h1, h2.imp id ?_⟩
  rintro ⟨g', cap, cur, hv, _, r⟩
  have e : g = g' := by
    simp only [Value.slice.injEq, Option.some.injEq, Addr.mk.injEq] at hv
    exact hv.1.1
  exact ⟨g', cap, cur, hv, e.symm, r⟩

/-- All that the ranges of 'gives' stand on. -/
structure GAll (file : Int) (bs : List UInt8) (b h b13 bf bo ga ca b15 B : Nat) (wv : Value) (most : Int) (ws : List Fd) (W : World) : Prop where
  box : GBox b wv most h W
  c13 : W.heap[b13]? = some (.cells #[.func (.func 46) #[] #[.pointer (some ⟨bf, 0, none⟩), .pointer (some ⟨bo, 0, none⟩)]] 53 (0, 0))
  cF : W.heap[bf]? = some (.cells #[.int .i64 file] 3 (0, 0))
  cO : W.heap[bo]? = some (.cells #[.slice (some ⟨ga, 0, none⟩) bs.length ca] 22 (0, 0))
  ob : OB 5 (fun k => k = ga) W (.slice (some ⟨ga, 0, none⟩) bs.length ca) bs
  want : WRep (fun k => k < b ∧ k ≠ h) W wv ws
  num : h < b ∧ b + 4 ≤ b13 ∧ b + 4 ≤ bf ∧ b + 4 ≤ bo ∧ b + 4 ≤ ga ∧ b13 < b15 ∧ bf < b15 ∧ bo < b15 ∧ ga < b15 ∧ b15 < B

theorem GAll.kept {file : Int} {bs : List UInt8} {b h b13 bf bo ga ca b15 B : Nat} {wv : Value} {most : Int} {ws : List Fd} {W W' : World} {G : Nat → Prop} (s : GAll file bs b h b13 bf bo ga ca b15 B wv most ws W) (hf : Fr G W W') (hG : ∀ k, k ≠ h → k < b15 → ¬ G k) :
    GAll file bs b h b13 bf bo ga ca b15 B wv most ws W' := by
  obtain ⟨n1, n2, n3, n4, n5, n6, n7, n8, n9, n10⟩ := s.num
  exact ⟨s.box.kept hf (fun k h1 h2 => hG k (by omega) (by omega)), hf.get s.c13 (hG _ (by omega) n6), hf.get s.cF (hG _ (by omega) n7), hf.get s.cO (hG _ (by omega) n8), Own.fr s.ob hf (fun k _ e => hG k (by omega) (by omega)),
    s.want.fr hf (fun k _ e => hG k e.2 (by omega)), s.num⟩

theorem GAll.any {file : Int} {bs : List UInt8} {b h b13 bf bo ga ca b15 B : Nat} {wv : Value} {most : Int} {ws : List Fd} {W : World} (s : GAll file bs b h b13 bf bo ga ca b15 B wv most ws W) :
    OB 5 (fun _ => True) W (.slice (some ⟨ga, 0, none⟩) bs.length ca) bs := Own.mono s.ob (fun _ _ _ => trivial)

theorem GAll.own {file : Int} {bs : List UInt8} {b h b13 bf bo ga ca b15 B : Nat} {wv : Value} {most : Int} {ws : List Fd} {W : World} (s : GAll file bs b h b13 bf bo ga ca b15 B wv most ws W) :
    ∀ k, fdOwn bf bo (.slice (some ⟨ga, 0, none⟩) bs.length ca) k → k ≠ h ∧ k < b15 ∧ k < W.heap.size := by
  obtain ⟨n1, n2, n3, n4, n5, n6, n7, n8, n9, n10⟩ := s.num
  have h1 := lt_of_heap s.cF
  have h2 := lt_of_heap s.cO
  rintro k (rfl | rfl | hk)
  · omega
  · omega
  · obtain ⟨rfl, h3⟩ := Own.block s.ob k hk
    omega

theorem GSt.mono {w1 : World} {h b15 M M' : Nat} {W : World} (s : GSt w1 h b15 M W) (hM : M ≤ M') : GSt w1 h b15 M' W := by
  obtain ⟨vo, vw, L, hh, hl, hn⟩ := s.held
  exact ⟨⟨vo, vw, L, hh, hl, Nat.le_trans hn hM⟩, s.fr⟩

theorem gst_start {W : World} {h b15 : Nat} (hh : W.heap[h]? = some (.cells #[.slice none 0 0, .slice none 0 0] 29 (0, 0))) : GSt W h b15 0 W :=
  ⟨⟨_, _, [], ⟨⟨hh, .inl rfl, Own.nil _ _ _ _, Own.nil _ _ _ _, fun k hk => by cases hk⟩, Pile.nil _ _ _ _⟩, fun j e he => by simp at he, Nat.le_refl _⟩, Fr.refl _ _⟩

end Go.Proofs.Ytgobbgklmjnnlaa
