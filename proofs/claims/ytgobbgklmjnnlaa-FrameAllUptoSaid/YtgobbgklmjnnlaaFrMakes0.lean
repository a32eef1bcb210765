/- FrameMakes, walked: what stands between its steps. -/
import Derived.Test.YtgobbgklmjnnlaaFrSpoil
import Derived.Test.YtgobbgklmjnnlaaFrSums
namespace Go.Proofs.Ytgobbgklmjnnlaa
open Go.RowKit Go.Sb

structure MkSt (F : Nat → Prop) (w wr : World) (h g c : Nat) (ps : List UInt8) (M : Nat) (L : List Ent) (vo vw : Value) : Prop where
  held : Held 29 22 5 F wr (fun _ => True) h vo vw [] L
  lim : Lim M L
  lent : OB 5 (fun x => x = g) wr (.slice (some ⟨g, 0, none⟩) (ps.length + 8) c) (ps ++ List.replicate 8 0xA5)
  gw : w.heap.size ≤ g
  inn : OB 5 (fun x => x = g) wr (.slice (some ⟨g, 0, none⟩) ps.length c) ps
  fr : Fr (fun _ => False) w wr

theorem MkSt.later {F : Nat → Prop} {w wr w' : World} {h g c : Nat} {ps : List UInt8} {M : Nat} {L : List Ent} {vo vw : Value} (s : MkSt F w wr h g c ps M L vo vw) (hf : Fr (fun _ => False) wr w') : MkSt F w w' h g c ps M L vo vw :=
  ⟨s.held.none hf, s.lim, hv3_of s.lent hf, s.gw, hv3_of s.inn hf, none_fr s.fr hf⟩

theorem MkSt.glt {F : Nat → Prop} {w wr : World} {h g c : Nat} {ps : List UInt8} {M : Nat} {L : List Ent} {vo vw : Value} (s : MkSt F w wr h g c ps M L vo vw) : g < wr.heap.size := (Own.block s.lent g rfl).2

theorem MkSt.holds {F : Nat → Prop} {w wr : World} {h g c : Nat} {ps : List UInt8} {M : Nat} {L : List Ent} {vo vw : Value} (s : MkSt F w wr h g c ps M L vo vw) (hn : L.length ≤ 1099511627776) :
    Calls Try.prog 21 #[.pointer (some ⟨h, 0, none⟩)] wr (Quiet (.bool true) wr) :=
  holds_any wr h vo vw L s.held.rows (fun j e he => ⟨(s.held.pile.rd j e he).1.1, (s.held.pile.rd j e he).2.1⟩) (by omega)

/-- what the list does not reach: the blocks that the call was handed, and g -/
def Far (w : World) (g : Nat) : Nat → Prop := fun x => w.heap.size ≤ x ∧ x ≠ g

theorem held_apart {TH R E : TypeId} {F : Nat → Prop} {A : Nat → Prop} {w : World} {h : Nat} {vo vw : Value} {rest : List Value} {L : List Ent} (hh : Held TH R E F w A h vo vw rest L) {b : Value} (hb : ∀ k, b.ownBlock = some k → w.heap.size ≤ k) :
    ∀ (j : Nat) (e : Ent), L[j]? = some e → Apart b e.out ∧ Apart b e.want := by
  refine fun j e he => ⟨fun k hk hk' => ?_, fun k hk hk' => ?_⟩
  · have := hb k hk; have := hh.pile.lt he (.inl hk'); omega
  · have := hb k hk; have := hh.pile.lt he (.inr hk'); omega

def KeepNext (w _wr : World) (h g c : Nat) (ps : List UInt8) (M : Nat) (L : List Ent) (b : Value) (xs : List UInt8) (e : Ending) (w' : World) : Prop :=
  ∃ vo' vw' d, e = .returned (.tuple #[]) ∧ MkSt (Far w g) w w' h g c ps M (L ++ [⟨b, d, xs⟩]) vo' vw'

/-- keep, of what was handed out since the list was seen last -/
theorem MkSt.keep {w wr wn : World} {h g c : Nat} {ps : List UInt8} {M : Nat} {L : List Ent} {vo vw : Value} (s : MkSt (Far w g) w wr h g c ps M L vo vw) (hf : Fr (fun _ => False) wr wn) {b : Value} {xs : List UInt8}
    (hb : OB 5 (fun k => wr.heap.size ≤ k) wn b xs) (hm : xs.length ≤ M) (hM : M ≤ 140737488360000) (hn : L.length ≤ 1099511627776) :
    Calls Try.prog 22 #[.pointer (some ⟨h, 0, none⟩), b] wn (KeepNext w wr h g c ps M L b xs) := by
  have sn := s.later hf
  have hg := s.glt
  have hw := s.fr.size
  have hF : ∀ k, wr.heap.size ≤ k → Far w g k := fun k hk => ⟨by omega, by omega⟩
  refine (keep_held wn h vo vw L b xs sn.held (Own.mono hb (fun k _ hk => hF k hk)) (fun k hk => hF k (Nat.le_trans hf.size hk)) (held_apart s.held (fun k hk => (Own.block hb k hk).1)) (by omega) hn).mono ?_
  rintro e w' ⟨vo', vw', d, he, hh, hfr⟩
  refine ⟨vo', vw', d, he, hh, ?_, Own.fr sn.lent hfr (fun k _ hk h => h.2 hk), sn.gw, Own.fr sn.inn hfr (fun k _ hk h => h.2 hk), sn.fr.trans hfr (fun k hk h => by have := h.1; omega)⟩
  intro j e he
  rcases get_snoc he with ⟨he, _⟩ | ⟨_, rfl⟩
  · exact s.lim j e he
  · exact hm

theorem errM_zero {file place : Int} {ps : List UInt8} (h : errM file place ps = 0) : Placed file ∧ Placed place ∧ 0 < ps.length ∧ ps.length ≤ 66000 := by
  unfold errM at h
  by_cases h1 : Placed file ∧ Placed place
  · rw [if_neg (fun h => h h1)] at h
    by_cases h2 : ps.length = 0 ∨ 66000 < ps.length
    · rw [if_pos h2] at h; simp at h
    · exact ⟨h1.1, h1.2, by omega, by omega⟩
  · rw [if_pos h1] at h; simp at h

theorem errOf_zero {file place : Int} {bs : List UInt8} (h : errOf file place bs = 0) : Placed file ∧ Placed place ∧ 4 ≤ bs.length ∧ 0 < lenOf bs ∧ lenOf bs ≤ 66000 ∧ 8 + lenOf bs ≤ bs.length ∧ SumOk file.toNat place.toNat bs := by
  unfold errOf at h
  by_cases h1 : Placed file ∧ Placed place
  · rw [if_neg (fun h => h h1)] at h
    by_cases h0 : bs.length = 0
    · rw [if_pos h0] at h; simp at h
    rw [if_neg h0] at h
    by_cases h4 : bs.length < 4
    · rw [if_pos h4] at h; simp at h
    rw [if_neg h4] at h
    by_cases h2 : lenOf bs = 0 ∨ 66000 < lenOf bs
    · rw [if_pos h2] at h; simp at h
    rw [if_neg h2] at h
    by_cases h3 : bs.length < 8 + lenOf bs
    · rw [if_pos h3] at h; simp at h
    rw [if_neg h3] at h
    by_cases h5 : SumOk file.toNat place.toNat bs
    · exact ⟨h1.1, h1.2, by omega, by omega, by omega, by omega, h5⟩
    · rw [if_neg h5] at h; simp at h
  · rw [if_pos h1] at h; simp at h

theorem outM_len (file place : Int) (ps : List UInt8) : (outM file place ps).length ≤ 66008 := by
  unfold outM
  by_cases he : errM file place ps = 0
  · rw [if_pos he]
    have := errM_zero he
    unfold frameOf
    simp [le_length]
    omega
  · rw [if_neg he]; simp

theorem restOf_len (file place : Int) (bs : List UInt8) : (restOf file place bs).length ≤ 66000 := by
  unfold restOf
  by_cases he : errOf file place bs = 0
  · rw [if_pos he]
    have := errOf_zero he
    rw [payOf_length (by omega)]
    omega
  · rw [if_neg he]; simp

theorem mk_start {w w1 w2 : World} {g n c : Nat} {ps : List UInt8} {M : Nat} (hf1 : Fr (fun _ => False) w w1) (hf2 : Fr (fun _ => False) (w1.alloc (.cells #[.slice none 0 0, .slice none 0 0] 29)) w2)
    (hv : OB 5 (fun k => (w1.alloc (.cells #[.slice none 0 0, .slice none 0 0] 29)).heap.size ≤ k) w2 (.slice (some ⟨g, 0, none⟩) n c) (ps ++ List.replicate 8 0xA5)) :
    MkSt (Far w g) w w2 w1.heap.size g c ps M [] (.slice none 0 0) (.slice none 0 0) ∧ n = ps.length + 8 := by
  have hg := (Own.block hv g rfl).1
  have hs := hf1.size
  have hn : n = ps.length + 8 := by
    rcases hv.2 with ⟨h, _⟩ | ⟨g', cap', cur, he, _⟩
    · cases h
    · simp only [Value.slice.injEq] at he
      have := he.2.1
      simpa using this
  subst hn
  have hv' : OB 5 (fun x => x = g) w2 (.slice (some ⟨g, 0, none⟩) (ps.length + 8) c) (ps ++ List.replicate 8 0xA5) := by
    obtain ⟨h1, h2⟩ := hv
    refine ⟨h1, h2.imp id ?_⟩
    rintro ⟨g', cap, cur, he, _, r⟩
    have : g = g' := by
      simp only [Value.slice.injEq, Option.some.injEq, Addr.mk.injEq] at he
      exact he.1.1
    exact ⟨g', cap, cur, he, this.symm, r⟩
  have hcut := OB.cutn (n := ps.length) hv' (by simp)
  rw [List.take_left] at hcut
  simp at hg
  refine ⟨⟨⟨⟨hf2.get (heap_alloc_eq _ _) (fun h => h), ⟨hs, by omega⟩, Own.nil _ _ _ _, Own.nil _ _ _ _, fun k hk => by cases hk⟩, Pile.nil _ _ _ _⟩, fun j e he => by simp at he, hv', by omega, hcut, hf1.trans (((Fr.refl _ _).alloc _).trans hf2 (fun _ _ h => h)) (fun _ _ h => h)⟩, rfl⟩

/-- what was handed in is being written over -/
def OverIn (w : World) (h g c n : Nat) (L : List Ent) (vo vw : Value) (i : Value) (wr : World) : Prop :=
  ∃ (k : Nat) (zs : List UInt8), i = .int .i64 (k : Int) ∧ k ≤ n ∧ zs.length = n ∧ Held 29 22 5 (Far w g) wr (fun _ => True) h vo vw [] L ∧ Lim 66008 L ∧ OB 5 (fun x => x = g) wr (.slice (some ⟨g, 0, none⟩) n c) zs ∧ Fr (fun _ => False) w wr

theorem OverIn.step {w wr : World} {h g n c k : Nat} {L : List Ent} {vo vw : Value} {zs : List UInt8} (hz : zs.length = n) (hk : k < n) (hh : Held 29 22 5 (Far w g) wr (fun _ => True) h vo vw [] L) (hl : Lim 66008 L)
    (hv : OB 5 (fun x => x = g) wr (.slice (some ⟨g, 0, none⟩) n c) zs) (hf : Fr (fun _ => False) w wr) (hw : w.heap.size ≤ g) (x : UInt8) :
    OverIn w h g c n L vo vw (.int .i64 ((k : Int) + 1)) (wr.setCell ⟨g, k, none⟩ (byte x)) := by
  refine ⟨k + 1, zs.set k x, rfl, hk, by simpa using hz, hh.fr ((Fr.refl (fun x => x = g) wr).setCell (.inl rfl) _) (fun i hi h => hi.2 h), hl, ?_, hf.setCell (.inr hw) _⟩
  unfold OB
  rw [List.length_set, List.map_set]
  exact Own.set hv rfl (by omega)

def KeepLast (F : Nat → Prop) (h M : Nat) (b : Value) (xs : List UInt8) (L : List Ent) (wn : World) (e : Ending) (w' : World) : Prop :=
  ∃ vo' vw' d, e = .returned (.tuple #[]) ∧ Held 29 22 5 F w' (fun _ => True) h vo' vw' [] (L ++ [⟨b, d, xs⟩]) ∧ Lim M (L ++ [⟨b, d, xs⟩]) ∧ Fr F wn w'

theorem held_keep {F : Nat → Prop} {wr wn : World} {h M : Nat} {L : List Ent} {vo vw : Value} (hh : Held 29 22 5 F wr (fun _ => True) h vo vw [] L) (hl : Lim M L) (hf : Fr (fun _ => False) wr wn) {b : Value} {xs : List UInt8}
    (hb : OB 5 (fun k => wr.heap.size ≤ k) wn b xs) (hF : ∀ k, wr.heap.size ≤ k → F k) (hm : xs.length ≤ M) (hM : M ≤ 140737488360000) (hn : L.length ≤ 1099511627776) :
    Calls Try.prog 22 #[.pointer (some ⟨h, 0, none⟩), b] wn (KeepLast F h M b xs L wn) := by
  refine (keep_held wn h vo vw L b xs (hh.none hf) (Own.mono hb (fun k _ hk => hF k hk)) (fun k hk => hF k (Nat.le_trans hf.size hk)) (held_apart hh (fun k hk => (Own.block hb k hk).1)) (by omega) hn).mono ?_
  rintro e w' ⟨vo', vw', d, he, hh', hfr⟩
  refine ⟨vo', vw', d, he, hh', ?_, hfr⟩
  intro j e he
  rcases get_snoc he with ⟨he, _⟩ | ⟨_, rfl⟩
  · exact hl j e he
  · exact hm

end Go.Proofs.Ytgobbgklmjnnlaa
