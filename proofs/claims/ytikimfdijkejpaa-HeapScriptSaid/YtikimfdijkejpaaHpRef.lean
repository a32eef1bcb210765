/- The document's heap: how it lies in memory; New, Len, place, tells, Push. -/
import Derived.Test.YtikimfdijkejpaaHpLists
namespace Go.Proofs.Ytikimfdijkejpaa.HT
open Go.RowKit Go.Sb

theorem en_cellsE {E : TypeId} {F : Nat → Prop} {w : World} {g n c : Nat} {L : List (Int × (Int × Int))} (h : Own E 3 F w (.slice (some ⟨g, 0, none⟩) n c) L.length (allc (L.map en))) {i : Nat} {p : Int × (Int × Int)} (hp : L[i]? = some p) :
    w.cell? ⟨g, i * 3, none⟩ = some (.int .i64 p.1) ∧ w.cell? ⟨g, i * 3 + 1, none⟩ = some (.int .i64 p.2.1) ∧ w.cell? ⟨g, i * 3 + 2, none⟩ = some (.int .i64 p.2.2) := by
  have hg : (L.map en)[i]? = some (en p) := by rw [List.getElem?_map, hp]; rfl
  refine ⟨h.cell rfl ?_, h.cell rfl ?_, h.cell rfl ?_⟩
  · exact (allc_at _ (en_wid L) i _ hg 0 (by decide)).trans rfl
  · exact (allc_at _ (en_wid L) i _ hg 1 (by decide)).trans rfl
  · exact (allc_at _ (en_wid L) i _ hg 2 (by decide)).trans rfl

/-- The document's heap at block br: its way, its last ticket, its list. -/
structure RRp (F : Nat → Prop) (w : World) (br : Nat) (way last : Int) (rv : Value) (M : List (Int × (Int × Int))) : Prop where
  head : w.heap[br]? = some (.cells #[.int .i64 way, .int .i64 last, rv] 104 (0, 0))
  ls : Own 113 3 F w rv M.length (allc (M.map en))
  fb : F br

section
variable {F G : Nat → Prop} {w w' : World} {br : Nat} {way last : Int} {rv : Value} {M : List (Int × (Int × Int))}

theorem RRp.mono (h : RRp F w br way last rv M) (hF : ∀ k, k < w.heap.size → F k → G k) : RRp G w br way last rv M := ⟨h.head, h.ls.mono hF, hF _ (lt_of_heap h.head) h.fb⟩
theorem RRp.of (h : RRp F w br way last rv M) (hk : ∀ k, k < w.heap.size → F k → w'.heap[k]? = w.heap[k]?) : RRp F w' br way last rv M :=
  ⟨(hk _ (lt_of_heap h.head) h.fb).trans h.head, h.ls.of (fun k hl hb => hk k hl (h.ls.block k hb).1), h.fb⟩
theorem RRp.fr (h : RRp F w br way last rv M) (hf : Fr G w w') (hd : ∀ k, k < w.heap.size → F k → ¬ G k) : RRp F w' br way last rv M := h.of (fun k hk hF => hf.block k hk (hd k hk hF))
theorem RRp.shape (h : RRp F w br way last rv M) : ∃ ad cap, rv = .slice ad M.length cap ∧ M.length ≤ cap := by
  rcases h.ls.shape with ⟨rfl, hl, _⟩ | ⟨gg, cap, he, h1, _⟩
  · exact ⟨none, 0, by rw [hl], by omega⟩
  · exact ⟨_, cap, he, h1⟩
theorem RRp.some (h : RRp F w br way last rv M) (hn : 0 < M.length) : ∃ gg cap, rv = .slice (some ⟨gg, 0, none⟩) M.length cap ∧ M.length ≤ cap ∧ cap ≤ maxLen := by
  rcases h.ls.shape with ⟨_, hl, _⟩ | ⟨gg, cap, he, h1, h2, _⟩
  · omega
  · exact ⟨gg, cap, he, h1, h2⟩
end

theorem rnew_any (way : Int) (w : World) :
    Calls Try.prog 31 #[.int .i64 way] w fun e w' => e = .returned (.pointer (some ⟨w.heap.size, 0, none⟩)) ∧ RRp (fun k => w.heap.size ≤ k) w' w.heap.size way 0 (.slice none 0 0) [] ∧ Fr (fun _ => False) w w' := by
  go_enter Try.func31, Try.ntmps31
  go_wp2_with (fail)
  go_ret
  exact ⟨rfl, ⟨heap_alloc_eq _ _, Own.nil _ _ _ _, Nat.le_refl _⟩, (Fr.refl _ _).alloc _⟩

theorem rlen_any {F : Nat → Prop} {br : Nat} {way last : Int} {rv : Value} {M : List (Int × (Int × Int))} {w : World} (h : RRp F w br way last rv M) :
    Calls Try.prog 62 #[.pointer (some ⟨br, 0, none⟩)] w fun e w' => e = .returned (.int .i64 (M.length : Int)) ∧ w = w' := by
  obtain ⟨ad, cap, rfl, _⟩ := h.shape
  have c2 : w.cell? ⟨br, 2, none⟩ = some (.slice ad M.length cap) := cell_is h.head 2 rfl
  clear h
  go_enter Try.func62, Try.ntmps62
  go_wp2_with (fail)
  go_ret
  exact ⟨rfl, rfl⟩

set_option maxRecDepth 100000 in
set_option maxHeartbeats 1000000 in
theorem place_none {F : Nat → Prop} {br : Nat} {way last t : Int} {rv : Value} {M : List (Int × (Int × Int))} {w : World} (h : RRp F w br way last rv M) (hL : M.length ≤ 8796093022208) (ht : ∀ p ∈ M, p.1 ≠ t) :
    Calls Try.prog 78 #[.pointer (some ⟨br, 0, none⟩), .int .i64 t] w fun e w' => e = .returned (.int .i64 (-1)) ∧ w = w' := by
  obtain ⟨ad, cap, rfl, hcap⟩ := h.shape
  have c2 : w.cell? ⟨br, 2, none⟩ = some (.slice ad M.length cap) := cell_is h.head 2 rfl
  have HT := Lib.hid ht
  have HH := Lib.hid h
  clear h ht
  go_enter Try.func78, Try.ntmps78
  go_wp2_with (fail)
  go_loop [11] (fun i => ∃ k : Nat, i = .int .i64 (k : Int) ∧ k ≤ M.length) (fun i => M.length - (intOf i).toNat)
  case atStart => exact ⟨0, rfl, by omega⟩
  case round =>
    obtain ⟨k, rfl, hk⟩ := hrel
    by_cases hlt : k < M.length
    · obtain ⟨gg, cap', he, _, _⟩ := HH.out.some (by omega)
      cases he
      obtain ⟨i0, i1, i2⟩ := en_cellsE HH.out.ls (List.getElem?_eq_getElem hlt)
      have hne := HT.out _ (List.getElem_mem hlt)
      have hne2 : ((M[k]'hlt).1 == t) = false := by simpa using hne
      generalize (M[k]'hlt).1 = y at *
      clear i1 i2
      go_wp2_with (fail)
      go_round
      case rel => exact ⟨k + 1, by simp, hlt⟩
      case measure => simp [intOf]; omega
    · have hkn : k = M.length := by omega
      subst hkn
      go_wp2_with (fail)
      go_ret
      exact ⟨rfl, rfl⟩

set_option maxRecDepth 100000 in
set_option maxHeartbeats 1000000 in
theorem place_some {F : Nat → Prop} {br : Nat} {way last t : Int} {rv : Value} {M us vs : List (Int × (Int × Int))} {x : Int × Int} {w : World} (h : RRp F w br way last rv M) (hL : M.length ≤ 8796093022208) (hl : M = us ++ (t, x) :: vs) (ht : ∀ p ∈ us, p.1 ≠ t) :
    Calls Try.prog 78 #[.pointer (some ⟨br, 0, none⟩), .int .i64 t] w fun e w' => e = .returned (.int .i64 (us.length : Int)) ∧ w = w' := by
  have hul : us.length < M.length := by rw [hl]; simp
  obtain ⟨gg, cap, rfl, hcap, _⟩ := h.some (by omega)
  have c2 : w.cell? ⟨br, 2, none⟩ = some (.slice (some ⟨gg, 0, none⟩) M.length cap) := cell_is h.head 2 rfl
  have HT := Lib.hid ht
  have HH := Lib.hid h
  have HE := Lib.hid hl
  clear h ht hl
  go_enter Try.func78, Try.ntmps78
  go_wp2_with (fail)
  go_loop [11] (fun i => ∃ k : Nat, i = .int .i64 (k : Int) ∧ k ≤ us.length) (fun i => M.length - (intOf i).toNat)
  case atStart => exact ⟨0, rfl, by omega⟩
  case round =>
    obtain ⟨k, rfl, hk⟩ := hrel
    have hlt : k < M.length := by omega
    by_cases hku : k < us.length
    · have hx : M[k]? = some (us[k]'hku) := by rw [HE.out, List.getElem?_append_left hku, List.getElem?_eq_getElem hku]
      obtain ⟨i0, i1, i2⟩ := en_cellsE HH.out.ls hx
      have hne := HT.out _ (List.getElem_mem hku)
      have hne2 : ((us[k]'hku).1 == t) = false := by simpa using hne
      clear hx i1 i2
      generalize (us[k]'hku).1 = y at *
      go_wp2_with (fail)
      go_round
      case rel => exact ⟨k + 1, by simp, by omega⟩
      case measure => simp [intOf]; omega
    · have hkn : k = us.length := by omega
      subst hkn
      have hx : M[us.length]? = some (t, x) := by rw [HE.out, List.getElem?_append_right (Nat.le_refl _)]; simp
      obtain ⟨i0, i1, i2⟩ := en_cellsE HH.out.ls hx
      clear hx i1 i2
      go_wp2_with (fail)
      go_ret
      exact ⟨rfl, rfl⟩

set_option maxRecDepth 100000 in
set_option maxHeartbeats 1000000 in
theorem tells_none {br : Nat} {w : World} :
    Calls Try.prog 75 #[.pointer (some ⟨br, 0, none⟩), .int .i64 (-1)] w fun e w' => e = .returned (.tuple #[.int .i64 0, thV (0, 0), .bool false]) ∧ Fr (fun _ => False) w w' := by
  go_enter Try.func75, Try.ntmps75
  go_wp2_with (fail)
  refine bodyPost_ret (v := .tuple #[.int .i64 0, thV (0, 0), .bool false]) (by simp [results, Try.results75, go_sem, thV]) rfl ⟨rfl, ?_⟩
  exact (Fr.refl _ _).alloc _

set_option maxRecDepth 100000 in
set_option maxHeartbeats 1000000 in
theorem tells_some {F : Nat → Prop} {br : Nat} {way last : Int} {rv : Value} {M : List (Int × (Int × Int))} {a : Int × (Int × Int)} {i : Nat} {w : World} (h : RRp F w br way last rv M) (hi : M[i]? = some a) :
    Calls Try.prog 75 #[.pointer (some ⟨br, 0, none⟩), .int .i64 (i : Int)] w fun e w' => e = .returned (.tuple #[.int .i64 a.1, thV a.2, .bool true]) ∧ Fr (fun _ => False) w w' := by
  have hil := (List.getElem?_eq_some_iff.1 hi).1
  obtain ⟨gg, cap, rfl, hcap, _⟩ := h.some (by omega)
  have c2 : w.cell? ⟨br, 2, none⟩ = some (.slice (some ⟨gg, 0, none⟩) M.length cap) := cell_is h.head 2 rfl
  obtain ⟨i0, i1, i2⟩ := en_cellsE h.ls hi
  have hlt := lt_of_heap h.head
  have hgl := World.block_lt_of_cell? w _ i0
  obtain ⟨ta, ra, ma⟩ := a
  dsimp only at i0 i1 i2
  clear h hi
  go_enter Try.func75, Try.ntmps75
  go_wp2_with (fail)
  go_region
  go_wp2_with (fail)
  refine bodyPost_ret (v := .tuple #[.int .i64 ta, .agg #[.int .i64 ra, .int .i64 ma], .bool true]) (by simp [results, Try.results75, go_sem]) rfl ⟨rfl, ?_⟩
  exact (((Fr.refl _ _).alloc _)).drew

end Go.Proofs.Ytikimfdijkejpaa.HT
