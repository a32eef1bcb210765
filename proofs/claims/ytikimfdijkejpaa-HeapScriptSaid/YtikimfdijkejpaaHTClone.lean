/- The heap at one type of things: Clone. -/
import Derived.Test.YtikimfdijkejpaaHTPush
import Derived.Test.YtikimfdijkejpaaHpMclone
namespace Go.Proofs.Ytikimfdijkejpaa.HT
open Go.RowKit Go.Sb

/-- cells that are read are a source -/
theorem own_src {E : TypeId} {sz n : Nat} {F : Nat → Prop} {w : World} {v : Value} {xs : List Value} (h : Own E sz F w v n xs) (h1 : ∀ u ∈ xs, u.oneCell' = true) : Src w v n sz xs := by
  refine ⟨h.1, h1, ?_⟩
  rcases h.2 with ⟨rfl, rfl⟩ | ⟨g, cap, cur, rfl, _⟩
  · exact .inl ⟨0, rfl, rfl⟩
  · refine .inr ⟨_, cap, rfl, fun j u hu => ?_⟩
    have h2 := h.row.cells (g := g) rfl j u hu
    exact h2

theorem own_slice {E : TypeId} {sz n : Nat} {F : Nat → Prop} {w : World} {v : Value} {xs : List Value} (h : Own E sz F w v n xs) : ∃ ad k c, v = .slice ad k c := by
  rcases h.shape with ⟨rfl, _⟩ | ⟨gg, cap, rfl, _⟩
  · exact ⟨_, _, _, rfl⟩
  · exact ⟨_, _, _, rfl⟩

theorem allc_one {L : List (Int × (Int × Int))} : ∀ u ∈ allc (L.map en), u.oneCell' = true := by
  intro u hu
  unfold allc at hu
  rw [List.mem_flatMap] at hu
  obtain ⟨e, he, hu⟩ := hu
  obtain ⟨p, _, rfl⟩ := List.mem_map.1 he
  simp only [ecells, en, List.mem_cons, List.not_mem_nil, or_false] at hu
  rcases hu with rfl | rfl | rfl <;> rfl

set_option maxRecDepth 100000 in
set_option maxHeartbeats 2000000 in
theorem sclone_any {F : Nat → Prop} {lv : Value} {L : List (Int × (Int × Int))} {w : World} (h : Own 101 3 F w lv L.length (allc (L.map en))) (hL : L.length ≤ 8796093022208) :
    Calls Try.prog 64 #[lv] w fun e w' => ∃ lv', e = .returned lv' ∧ Own 101 3 (fun k => w.heap.size ≤ k) w' lv' L.length (allc (L.map en)) ∧ Fr (fun _ => False) w w' := by
  rcases h.shape with ⟨rfl, hl, hx⟩ | ⟨gg, cap, he, hc1, hc2, _⟩
  · have hL0 : L = [] := List.eq_nil_of_length_eq_zero hl
    subst hL0
    have hnil := fun (w : World) => Lib.run_eql_slice_nil (P := Try.prog) w 97 101 none 0 0 0 0 Try.underlying97
    simp only [Option.isNone_none] at hnil
    clear h hl hx
    go_enter Try.func64, Try.ntmps64
    go_wp2_with (fail)
    go_ret
    exact ⟨_, rfl, Own.nil _ _ _ _, Fr.refl _ _⟩
  · subst he
    have hnil := fun (w : World) => Lib.run_eql_slice_nil (P := Try.prog) w 97 101 (some ⟨gg, 0, none⟩) L.length cap 0 0 Try.underlying97
    simp only [Option.isNone_some] at hnil
    have HOW := Lib.hid h
    clear h
    unfold maxLen at hc2
    go_enter Try.func64, Try.ntmps64
    go_wp2_with (at_builtin; refine wpList_append_Own _ rfl _ _ 97 rfl 101 (.agg #[.int .i64 0, .int .i64 0, .int .i64 0]) 3 24 Try.underlying97 infoE rfl (by decide) (.slice (some ⟨w.heap.size, 0, none⟩) 0 0) 0 [] rfl (Own.empty 101 3 (fun k => w.heap.size ≤ k) w (Nat.le_refl _)) (.slice (some ⟨gg, 0, none⟩) L.length cap) L.length _ rfl (own_src (HOW.out.alloc _) allc_one) (by unfold maxLen; omega) (by omega) ?_; intro v1 w1 hv1 hf1 hn1 _; have HV1 := Lib.hid hv1; have HF1 := Lib.hid hf1; clear hv1 hf1 hn1)
    go_ret
    refine ⟨_, rfl, ?_, ((Fr.refl _ w).alloc _).trans HF1.out (fun k hk e => by simp only [Value.ownBlock, Option.some.injEq] at e; omega)⟩
    have h1 := HV1.out.mono (G := fun k => w.heap.size ≤ k) (fun k _ hk => hk.elim id (fun hk => by simp at hk; omega))
    rw [Nat.zero_add, List.nil_append] at h1
    exact h1

set_option maxRecDepth 100000 in
set_option maxHeartbeats 2000000 in
theorem clone_any {F : Nat → Prop} {bh bm : Nat} {fid : Nat} {caps : Array Value} {lv : Value} {g : Int} {L : List (Int × (Int × Int))} {m : List (Int × Value)} {w : World} (h : HRep 99 101 3 F w bh (.func (.func fid) #[] caps) g (L.map en) lv bm m) (hL : L.length ≤ 8796093022208) :
    Calls Try.prog 40 #[.pointer (some ⟨bh, 0, none⟩)] w fun e w' => ∃ bh' bm' lv', e = .returned (.pointer (some ⟨bh', 0, none⟩)) ∧ HRep 99 101 3 (fun k => w.heap.size ≤ k) w' bh' (.func (.func fid) #[] caps) g (L.map en) lv' bm' m ∧ Fr (fun _ => False) w w' := by
  have hown : Own 101 3 F w lv L.length (allc (L.map en)) := by simpa using h.list
  have c0 : w.cell? ⟨bh, 0, none⟩ = some (.func (.func fid) #[] caps) := cell_is h.head 0 rfl
  have c1 : w.cell? ⟨bh, 1, none⟩ = some lv := cell_is h.head 1 rfl
  have c2 : w.cell? ⟨bh, 2, none⟩ = some (.map (some bm)) := cell_is h.head 2 rfl
  have c3 : w.cell? ⟨bh, 3, none⟩ = some (.int .i64 g) := cell_is h.head 3 rfl
  have H := Lib.hid h
  have HOW := Lib.hid hown
  obtain ⟨ad, n, cc, rfl⟩ := own_slice hown
  clear h hown
  go_enter Try.func40, Try.ntmps40
  go_wp2_with (fail)
  go_region_held3 (fun w' => w'.cell? ⟨bh, 0, none⟩ = some (.func (.func fid) #[] caps) ∧ w'.cell? ⟨bh, 1, none⟩ = some (.slice ad n cc) ∧ w'.cell? ⟨bh, 2, none⟩ = some (.map (some bm)) ∧ w'.cell? ⟨bh, 3, none⟩ = some (.int .i64 g)) (first | exact ⟨c0, c1, c2, c3⟩ | exact k1.out | exact k2.out | exact ⟨cell_fr ((Fr.refl (fun _ => False) w2).alloc _) k2.out.1 id, cell_fr ((Fr.refl (fun _ => False) w2).alloc _) k2.out.2.1 id, cell_fr ((Fr.refl (fun _ => False) w2).alloc _) k2.out.2.2.1 id, cell_fr ((Fr.refl (fun _ => False) w2).alloc _) k2.out.2.2.2 id⟩) (first
    | (go_at_call 64; refine (sclone_any (HOW.out.fr ((Fr.refl (fun _ => False) w).drew) (fun _ _ _ h => h)) hL).mono ?_; rintro e w1 ⟨lv1, rfl, ho1, hf1⟩; obtain ⟨a1, n1, cc1, rfl⟩ := own_slice ho1; have hfa : Fr (fun _ => False) w w1 := ((Fr.refl (fun _ => False) w).drew).trans hf1 (fun _ _ h => h); have k1 := Lib.hid (And.intro (cell_fr hfa c0 id) (And.intro (cell_fr hfa c1 id) (And.intro (cell_fr hfa c2 id) (cell_fr hfa c3 id)))); have HF1 := Lib.hid hfa; have HO1 := Lib.hid ho1; clear hfa ho1 hf1)
    | (go_at_call 44; refine (mclone_any bm m _ (H.out.fr HF1.out (fun _ _ _ h => h)).map).mono ?_; rintro e w2 ⟨b2, rfl, hm2, hf2, hb2⟩; have hfa : Fr (fun _ => False) w w2 := HF1.out.trans hf2 (fun _ _ h => h); have k2 := Lib.hid (And.intro (cell_fr hfa c0 id) (And.intro (cell_fr hfa c1 id) (And.intro (cell_fr hfa c2 id) (cell_fr hfa c3 id)))); have HF2 := Lib.hid hf2; have HM2 := Lib.hid hm2; have HB2 := Lib.hid hb2; clear hfa hm2 hf2 hb2))
  go_wp2_with (fail)
  go_ret
  have f3 : Fr (fun _ => False) w2 (w2.alloc (.cells #[.func (.func fid) #[] caps, .slice a1 n1 cc1, .map (some b2), .int .i64 g] 99)) := (Fr.refl _ _).alloc _
  have hs1 := HF1.out.size
  have hs2 := HF2.out.size
  have hb2 := HB2.out
  refine ⟨_, b2, .slice a1 n1 cc1, rfl, ⟨heap_alloc_eq _ _, ?_, (HM2.out.alloc _), H.out.ok, ?_, ?_, en_wid _, H.out.one⟩, (HF1.out.trans HF2.out (fun _ _ h => h)).trans f3 (fun _ _ h => h)⟩
  · rw [List.length_map]
    exact (HO1.out.fr HF2.out (fun _ _ _ h => h)).alloc _
  · show w.heap.size ≤ w2.heap.size
    omega
  · show w.heap.size ≤ b2
    omega

end Go.Proofs.Ytikimfdijkejpaa.HT
