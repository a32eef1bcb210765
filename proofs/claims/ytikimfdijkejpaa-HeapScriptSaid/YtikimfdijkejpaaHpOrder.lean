/- Order, walked; lists of numbers that the statement compares. -/
import Derived.Test.YtikimfdijkejpaaHpOrder0
import Derived.Test.YtikimfdijkejpaaHpOrd
import Derived.Test.YtikimfdijkejpaaHTClone
import Derived.Test.YtikimfdijkejpaaHTPop
namespace Go.Proofs.Ytikimfdijkejpaa.HT
open Go.RowKit Go.Sb

theorem infoI : (Try.prog.info? 3).map (fun i => (i.zero, i.size, i.bytes)) = some (some (.int .i64 0), 1, 8) := by kernel_rfl

/-- Just the blocks of a heap. -/
def foot (bh bm : Nat) (lv : Value) : Nat → Prop := fun k => k = bh ∨ k = bm ∨ lv.ownBlock = some k

section
variable {F : Nat → Prop} {w : World} {bh bm : Nat} {fv lv : Value} {g : Int} {es : List HE} {m : List (Int × Value)}

theorem hrep_exact (h : HRep 99 101 3 F w bh fv g es lv bm m) : HRep 99 101 3 (foot bh bm lv) w bh fv g es lv bm m := by
  refine ⟨h.head, ?_, h.map, h.ok, .inl rfl, .inr (.inl rfl), h.wid, h.one⟩
  obtain ⟨h1, h2⟩ := h.list
  refine ⟨h1, h2.imp id ?_⟩
  rintro ⟨g, cap, cur, rfl, _, r⟩
  exact ⟨g, cap, cur, rfl, .inr (.inr rfl), r⟩

theorem foot_lt (h : HRep 99 101 3 F w bh fv g es lv bm m) : ∀ k, foot bh bm lv k → k < w.heap.size := fun k hk => by
  rcases hk with rfl | rfl | hk
  · exact lt_of_heap h.head
  · exact h.map.lt
  · exact (h.list.block k hk).2

theorem foot_in (h : HRep 99 101 3 F w bh fv g es lv bm m) : ∀ k, foot bh bm lv k → F k := fun k hk => by
  rcases hk with rfl | rfl | hk
  · exact h.fh
  · exact h.fm
  · exact (h.list.block k hk).1

/-- A row of numbers lies in none of them. -/
theorem foot_ints (h : HRep 99 101 3 F w bh fv g es lv bm m) {G : Nat → Prop} {v : Value} {n : Nat} {xs : List Value} (hv : Own 3 1 G w v n xs) : ∀ k, v.ownBlock = some k → ¬ foot bh bm lv k := fun k hk hf => by
  rcases hf with rfl | rfl | hf
  · exact own_neT h.head (by decide) hv hk
  · exact own_neM h.map hv hk
  · rcases hv.2 with ⟨rfl, _⟩ | ⟨g', cap', cur', rfl, _, hg, _⟩
    · cases hk
    · simp only [Value.ownBlock, Option.some.injEq] at hk
      subst hk
      exact own_neT hg (by decide) h.list hf
end

/-- a number just laid -/
theorem src_num (w : World) (a : Int) : Src (w.alloc (.cells #[.int .i64 a] 3)) (.slice (some ⟨w.heap.size, 0, none⟩) 1 1) 1 1 [.int .i64 a] := by
  refine ⟨rfl, ?_, .inr ⟨_, _, rfl, ?_⟩⟩
  · intro u hu
    simp only [List.mem_cons, List.not_mem_nil, or_false] at hu
    subst hu
    rfl
  · intro j u hj
    have ha : (⟨w.heap.size, 0, none⟩ : Addr).add j = ⟨w.heap.size, j, none⟩ := by unfold Addr.add; split <;> simp_all
    rw [ha, cell_of (heap_alloc_eq w (.cells #[.int .i64 a] 3))]
    simpa using hj

theorem src_at (w : World) (o : Obj) (a : Int) : Src ((w.alloc o).alloc (.cells #[.int .i64 a] 3)) (.slice (some ⟨w.heap.size + 1, 0, none⟩) 1 1) 1 1 [.int .i64 a] := by
  have h := src_num (w.alloc o) a
  rwa [World.size_alloc] at h

/-- how long a slice is -/
def lenV : Value → Nat
  | .slice _ n _ => n
  | _ => 0

theorem lenV_own {T : TypeId} {size n : Nat} {F : Nat → Prop} {w : World} {v : Value} {xs : List Value} (h : Own T size F w v n xs) : lenV v = n := by
  rcases h.shape with ⟨rfl, rfl, _⟩ | ⟨g, cap, rfl, _⟩ <;> rfl

def ivs (xs : List Int) : List Value := xs.map (Value.int .i64)

def OrdRel (key : Int × Int → Int) (w : World) (fid bc : Nat) (g : Int) (L : List (Int × (Int × Int))) (v : Value) (wr : World) : Prop :=
  ∃ (xs : List Int) (M : List (Int × (Int × Int))) (lv : Value) (bd : Nat) (m : List (Int × Value)), HRep 99 101 3 (fun k => w.heap.size ≤ k) wr bc (.func (.func fid) #[] #[]) g (M.map en) lv bd m ∧ Own 3 1 (fun k => w.heap.size ≤ k) wr v xs.length (ivs xs) ∧
    xs ++ (orderL key M).map Prod.fst = (orderL key L).map Prod.fst ∧ Fr (fun _ => False) w wr

set_option maxRecDepth 100000 in
set_option maxHeartbeats 4000000 in
theorem order_any {fid : Nat} {key : Int × Int → Int} (B : BSpec Try.prog fid #[] thV anyX (bk key) noSt noSb) {F : Nat → Prop} {bh bm : Nat} {lv : Value} {g : Int} {L : List (Int × (Int × Int))} {m : List (Int × Value)} {w : World}
    (h : HRep 99 101 3 F w bh (.func (.func fid) #[] #[]) g (L.map en) lv bm m) (hL : L.length ≤ 8796093022208) :
    Calls Try.prog 36 #[.pointer (some ⟨bh, 0, none⟩)] w fun e w' => ∃ v, e = .returned v ∧ Own 3 1 (fun k => w.heap.size ≤ k) w' v L.length (ivs ((orderL key L).map Prod.fst)) ∧ Fr (fun _ => False) w w' := by
  have HC := Lib.hid (clone_any h hL)
  have HB := Lib.hid B
  clear h B
  go_enter Try.func36, Try.ntmps36
  go_wp2_with (go_at_call 40; refine HC.out.mono ?_; rintro e w1 ⟨bc, bd, lv1, rfl, hr1, hf1⟩; have HR1 := Lib.hid hr1; have HF1 := Lib.hid hf1; clear hr1 hf1)
  go_loopw [3] (fun v wr => OrdRel key w fid bc g L v wr) (fun v _ => L.length - lenV v)
  case atStart => exact ⟨[], L, lv1, bd, m, HR1.out, Own.nil _ _ _ _, rfl, HF1.out⟩
  case round =>
    obtain ⟨v, rfl⟩ : ∃ v, v = u3 := ⟨_, rfl⟩
    obtain ⟨xs, M, lv2, bd2, m2, hr, ho, hx, hf⟩ := hrel
    have HR := Lib.hid hr
    have HO := Lib.hid ho
    have HX := Lib.hid hx
    have HF := Lib.hid hf
    have hxl : xs.length + M.length = L.length := by
      have := congrArg List.length hx
      simp only [List.length_append, List.length_map, (orderL_perm _).length_eq] at this
      exact this
    have HXL := Lib.hid hxl
    clear hr ho hx hf hxl
    cases M with
    | nil =>
      go_wp2_with (go_at_call 25; refine (len_any HR.out).mono ?_; rintro e w2 ⟨rfl, rfl⟩; dsimp only [List.length_nil])
      go_ret
      have hx := HX.out
      rw [orderL_nil, List.map_nil, List.append_nil] at hx
      subst hx
      have hxl : (List.map Prod.fst (orderL key L)).length = L.length := by simp [(orderL_perm L).length_eq]
      refine ⟨v, rfl, ?_, HF.out⟩
      have := HO.out
      rwa [hxl] at this
    | cons a M =>
      have hML : (a :: M).length ≤ 8796093022208 := by have := HXL.out; omega
      obtain ⟨ad, k, c, rfl⟩ := own_slice HO.out
      have hk : k = xs.length := by
        rcases HO.out.shape with ⟨h1, h2, _⟩ | ⟨_, _, h1, _⟩
        · cases h1
          omega
        · cases h1
          rfl
      subst hk
      have hxs : xs.length ≤ 8796093022208 := by have := HXL.out; omega
      go_wp2_with (first
        | (go_at_call 25; refine (len_any HR.out).mono ?_; rintro e w2 ⟨rfl, rfl⟩)
        | (go_at_call 27; refine (pop_some HB.out (hrep_exact HR.out) rfl hML (fun _ _ => trivial) (c := 0) trivial (foot_lt HR.out) (fun k h => h.elim)).mono ?_; rintro e w3 ⟨rfl, ⟨lv3, m3, hr3⟩, _, hf3⟩; dsimp only [thV]; have ho3 := HO.out.of (fun k _ hb => hf3.block k (HO.out.block k hb).2 (fun h => h.elim (foot_ints HR.out HO.out k hb) id)); have HR3 := Lib.hid hr3; have HF3 := Lib.hid hf3; have HO3 := Lib.hid ho3; clear hr3 hf3 ho3)
        | (at_builtin; refine wpList_append_Own _ rfl _ _ 22 rfl 3 (.int .i64 0) 1 8 Try.underlying22 infoI rfl (by decide) (.slice ad xs.length c) xs.length _ rfl ((HO3.out.alloc _).alloc _) (.slice (some ⟨w3.heap.size + 1, 0, none⟩) 1 1) 1 [.int .i64 a.1] rfl (src_at w3 _ a.1) (by unfold maxLen; omega) (by omega) ?_; intro v4 w4 hv4 hf4 hn4 _; have HV4 := Lib.hid hv4; have HF4 := Lib.hid hf4; clear hv4 hf4 hn4))
      have hs3 := HF3.out.size
      have hsw := HF.out.size
      have f34 : Fr (fun k => (Value.slice ad xs.length c).ownBlock = some k) w3 w4 := (((Fr.refl _ w3).alloc _).alloc _).trans HF4.out (fun _ _ h => h)
      have hr4 := (HR3.out.fr f34 (fun k _ hF hb => foot_ints HR.out HO.out k hb hF)).mono (G := fun k => w.heap.size ≤ k) (fun k _ hF => foot_in HR.out k hF)
      have ho4 := HV4.out.mono (G := fun k => w.heap.size ≤ k) (fun k _ hk => hk.elim id (fun hk => by simp at hk; omega))
      have hlv := lenV_own HV4.out
      go_roundw
      case rel =>
        refine ⟨xs ++ [a.1], _, lv3, bd2, m3, hr4, ?_, ?_, (HF.out.trans HF3.out (fun k hk h => h.elim (fun h => absurd (show w.heap.size ≤ k from foot_in HR.out k h) (by omega)) id)).trans f34 (fun k hk h => absurd (show w.heap.size ≤ k from (HO.out.block k h).1) (by omega))⟩
        · have h1 : (xs ++ [a.1]).length = xs.length + 1 := by simp
          have h2 : ivs (xs ++ [a.1]) = ivs xs ++ [.int .i64 a.1] := by unfold ivs; simp
          rw [h1, h2]
          exact ho4
        · have hx := HX.out
          rw [orderL_cons, List.map_cons] at hx
          rw [List.append_assoc]
          exact hx
      case measure =>
        have := HXL.out
        rw [List.length_cons] at this
        rw [hlv]
        show L.length - (xs.length + 1) < L.length - xs.length
        omega

end Go.Proofs.Ytikimfdijkejpaa.HT
