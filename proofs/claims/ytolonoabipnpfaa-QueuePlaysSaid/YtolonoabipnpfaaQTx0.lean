/- What QueueTexts keeps: the program's queue, the document's, the texts. -/
import Derived.Test.YtolonoabipnpfaaQRef2
import Derived.Test.YtolonoabipnpfaaQIt
namespace Go.Proofs.Ytolonoabipnpfaa
open Go.RowKit Go.Sb

/-- F and what was laid between two worlds. -/
def grow (F : Nat → Prop) (a b : World) : Nat → Prop := fun k => F k ∨ (a.heap.size ≤ k ∧ k < b.heap.size)

/-- A set of blocks of a world, laid behind w0, in none of three cells. -/
structure Own3 (w0 w : World) (x y z : Nat) (F : Nat → Prop) : Prop where
  lt : ∀ k, F k → k < w.heap.size
  ge : ∀ k, F k → w0.heap.size ≤ k
  nx : ¬ F x
  ny : ¬ F y
  nz : ¬ F z

structure TxSt (w0 : World) (bq bm br bA bR bo : Nat) (F1 F2 F3 : Nat → Prop) (gq gr : Int) (lq : List Nd) (L : List (Int × Int)) (all : List ByteArray) (tv sv av : Value) (w : World) : Prop where
  q : QRep 83 87 F1 w bq gq lq bm
  r : RRep F2 w br tv sv gr L
  ao : Sb.Own 9 1 F3 w av all.length (all.map Value.string)
  cA : w.heap[bA]? = some (.cells #[av] 30 (0, 0))
  cR : w.heap[bR]? = some (.cells #[.pointer (some ⟨br, 0, none⟩)] 26 (0, 0))
  cO : w.heap[bo]? = some (.cells #[.bool false] 4 (0, 0))
  d12 : ∀ k, F1 k → ¬ F2 k
  d13 : ∀ k, F1 k → ¬ F3 k
  d23 : ∀ k, F2 k → ¬ F3 k
  o1 : Own3 w0 w bA bR bo F1
  o2 : Own3 w0 w bA bR bo F2
  o3 : Own3 w0 w bA bR bo F3
  fr : Fr (fun _ => False) w0 w
  gA : w0.heap.size ≤ bA
  gR : w0.heap.size ≤ bR
  go : w0.heap.size ≤ bo

section
variable {w0 w w' : World} {bq bm br bA bR bo : Nat} {F1 F2 F3 : Nat → Prop} {gq gr : Int} {lq : List Nd} {L : List (Int × Int)} {all : List ByteArray} {tv sv av : Value}

theorem Own3.grown {x y z : Nat} {F : Nat → Prop} (h : Own3 w0 w x y z F) (hx : x < w.heap.size) (hy : y < w.heap.size) (hz : z < w.heap.size) (h0 : w0.heap.size ≤ w.heap.size) (hs : w.heap.size ≤ w'.heap.size) : Own3 w0 w' x y z (grow F w w') :=
  ⟨fun k hk => hk.elim (fun hk => Nat.lt_of_lt_of_le (h.lt k hk) hs) (·.2), fun k hk => hk.elim (h.ge k) (fun hk => Nat.le_trans h0 hk.1), fun hk => hk.elim h.nx (fun hk => by omega), fun hk => hk.elim h.ny (fun hk => by omega), fun hk => hk.elim h.nz (fun hk => by omega)⟩
theorem Own3.up {x y z : Nat} {F : Nat → Prop} (h : Own3 w0 w x y z F) (hs : w.heap.size ≤ w'.heap.size) : Own3 w0 w' x y z F := ⟨fun k hk => Nat.lt_of_lt_of_le (h.lt k hk) hs, h.ge, h.nx, h.ny, h.nz⟩

theorem TxSt.frame (h : TxSt w0 bq bm br bA bR bo F1 F2 F3 gq gr lq L all tv sv av w) {G : Nat → Prop} (hf : Fr G w w') (h1 : ∀ k, F1 k → ¬ G k) (h2 : ∀ k, F2 k → ¬ G k) (h3 : ∀ k, F3 k → ¬ G k) (hA : ¬ G bA) (hR : ¬ G bR) (hO : ¬ G bo)
    (h0 : ∀ k, G k → w0.heap.size ≤ k) : TxSt w0 bq bm br bA bR bo F1 F2 F3 gq gr lq L all tv sv av w' :=
  ⟨h.q.fr hf (fun k _ => h1 k), h.r.fr hf (fun k _ => h2 k), h.ao.fr hf (fun k _ => h3 k), hf.get h.cA hA, hf.get h.cR hR, hf.get h.cO hO, h.d12, h.d13, h.d23, h.o1.up hf.size, h.o2.up hf.size, h.o3.up hf.size,
    h.fr.trans hf (fun k hk hG => absurd (h0 k hG) (by omega)), h.gA, h.gR, h.go⟩

theorem TxSt.q_step (h : TxSt w0 bq bm br bA bR bo F1 F2 F3 gq gr lq L all tv sv av w) {g' : Int} {lq' : List Nd} (hf : Fr F1 w w') (hq : QRep 83 87 (ex F1 w) w' bq g' lq' bm) :
    TxSt w0 bq bm br bA bR bo (grow F1 w w') F2 F3 g' gr lq' L all tv sv av w' :=
  ⟨hq.mono (fun k hk h => h.imp id (fun h => ⟨h, hk⟩)), h.r.fr hf (fun k _ h2 h1 => h.d12 k h1 h2), h.ao.fr hf (fun k _ h3 h1 => h.d13 k h1 h3), hf.get h.cA h.o1.nx, hf.get h.cR h.o1.ny, hf.get h.cO h.o1.nz,
    fun k hk h2 => hk.elim (fun h1 => h.d12 k h1 h2) (fun hk => by have := h.o2.lt k h2; omega), fun k hk h3 => hk.elim (fun h1 => h.d13 k h1 h3) (fun hk => by have := h.o3.lt k h3; omega), h.d23,
    h.o1.grown (lt_of_heap h.cA) (lt_of_heap h.cR) (lt_of_heap h.cO) h.fr.size hf.size, h.o2.up hf.size, h.o3.up hf.size, h.fr.trans hf (fun k hk hG => absurd (h.o1.ge k hG) (by omega)), h.gA, h.gR, h.go⟩

theorem TxSt.r_step (h : TxSt w0 bq bm br bA bR bo F1 F2 F3 gq gr lq L all tv sv av w) {g' : Int} {L' : List (Int × Int)} {tv' sv' : Value} (hf : Fr F2 w w') (hr : RRep (ex F2 w) w' br tv' sv' g' L') :
    TxSt w0 bq bm br bA bR bo F1 (grow F2 w w') F3 gq g' lq L' all tv' sv' av w' :=
  ⟨h.q.fr hf (fun k _ h1 h2 => h.d12 k h1 h2), hr.mono (fun k hk h => h.imp id (fun h => ⟨h, hk⟩)), h.ao.fr hf (fun k _ h3 h2 => h.d23 k h2 h3), hf.get h.cA h.o2.nx, hf.get h.cR h.o2.ny, hf.get h.cO h.o2.nz,
    fun k h1 hk => hk.elim (fun h2 => h.d12 k h1 h2) (fun hk => by have := h.o1.lt k h1; omega), h.d13, fun k hk h3 => hk.elim (fun h2 => h.d23 k h2 h3) (fun hk => by have := h.o3.lt k h3; omega),
    h.o1.up hf.size, h.o2.grown (lt_of_heap h.cA) (lt_of_heap h.cR) (lt_of_heap h.cO) h.fr.size hf.size, h.o3.up hf.size, h.fr.trans hf (fun k hk hG => absurd (h.o2.ge k hG) (by omega)), h.gA, h.gR, h.go⟩

/-- One text more: appended, and the cell holds what it grew into. -/
theorem TxSt.a_step (h : TxSt w0 bq bm br bA bR bo F1 F2 F3 gq gr lq L all tv sv av w) {s : ByteArray} {av' : Value} {wb : World} (hb : Fr (fun _ => False) w wb) (hv : Sb.Own 9 1 (ex F3 wb) w' av' (all.length + 1) (all.map Value.string ++ [.string s]))
    (hf : Fr (fun k => av.ownBlock = some k) wb w') :
    TxSt w0 bq bm br bA bR bo F1 F2 (grow F3 w w') gq gr lq L (all ++ [s]) tv sv av' (w'.setCell ⟨bA, 0, none⟩ av') := by
  have hf0 : Fr (fun k => av.ownBlock = some k) w w' := (hb.mono (fun _ _ h => h.elim)).trans hf (fun k _ h => h)
  have hf1 : Fr (fun k => k = bA ∨ av.ownBlock = some k) w (w'.setCell ⟨bA, 0, none⟩ av') := (hf0.mono (fun _ _ h => .inr h)).setCell (.inl (.inl rfl)) _
  have hown : ∀ k, av.ownBlock = some k → F3 k := fun k hk => (h.ao.block k hk).1
  have hnA : av.ownBlock ≠ some bA := fun e => h.o3.nx (hown _ e)
  have hnR : av.ownBlock ≠ some bR := fun e => h.o3.ny (hown _ e)
  have hnO : av.ownBlock ≠ some bo := fun e => h.o3.nz (hown _ e)
  have hAR : bA ≠ bR := ne_of_types h.cA h.cR (by decide)
  have hAO : bA ≠ bo := ne_of_types h.cA h.cO (by decide)
  have hcA : w'.heap[bA]? = some (.cells #[av] 30 (0, 0)) := hf0.get h.cA hnA
  have hsz : (w'.setCell ⟨bA, 0, none⟩ av').heap.size = w'.heap.size := by simp
  have hs1 := hf0.size
  refine ⟨h.q.fr hf1 (fun k _ h1 hk => hk.elim (fun e => h.o1.nx (e ▸ h1)) (fun hk => h.d13 k h1 (hown k hk))), h.r.fr hf1 (fun k _ h2 hk => hk.elim (fun e => h.o2.nx (e ▸ h2)) (fun hk => h.d23 k h2 (hown k hk))), ?_, ?_,
    hf1.get h.cR (fun hk => hk.elim (fun e => hAR e.symm) hnR), hf1.get h.cO (fun hk => hk.elim (fun e => hAO e.symm) hnO), h.d12,
    fun k h1 hk => hk.elim (h.d13 k h1) (fun hk => by have := h.o1.lt k h1; omega), fun k h2 hk => hk.elim (h.d23 k h2) (fun hk => by have := h.o2.lt k h2; omega), h.o1.up hf1.size, h.o2.up hf1.size, ?_,
    h.fr.trans hf1 (fun k hk hG => absurd (hG.elim (fun e => e ▸ h.gA) (fun hG => h.o3.ge k (hown k hG))) (by omega)), h.gA, h.gR, h.go⟩
  · have hv' : Sb.Own 9 1 (grow F3 w w') w' av' (all.length + 1) (all.map Value.string ++ [.string s]) := hv.mono (fun k hk h => h.imp id (fun h => ⟨Nat.le_trans hb.size h, hk⟩))
    have := hv'.of (w' := w'.setCell ⟨bA, 0, none⟩ av') (fun k hk hbk => heap_setCell_ne _ _ _ _ (fun e => by
      have e' : k = bA := e
      rw [e'] at hbk
      rcases (hv'.block bA hbk).1 with h3 | h3
      · exact h.o3.nx h3
      · have := lt_of_heap h.cA
        omega))
    simpa using this
  · have := heap_setCell_eq 0 av' hcA
    simpa using this
  · have := h.o3.grown (w' := w') (lt_of_heap h.cA) (lt_of_heap h.cR) (lt_of_heap h.cO) h.fr.size hs1
    exact ⟨fun k hk => by rw [hsz]; exact this.lt k hk, this.ge, this.nx, this.ny, this.nz⟩

theorem heap_alloc_n (w : World) (o : Obj) (n : Nat) (hn : n = w.heap.size) : (w.alloc o).heap[n]? = some o := by
  subst hn
  exact heap_alloc_eq w o

theorem TxSt.start {w0 w2 : World} {bq bm bo B : Nat} (hq : QRep 83 87 (fun k => B ≤ k) w2 bq 0 [] bm) (hO : w2.heap[bo]? = some (.cells #[.bool false] 4 (0, 0))) (hB : bo < B) (h0 : w0.heap.size ≤ bo) (hf : Fr (fun _ => False) w0 w2) :
    TxSt w0 bq bm w2.heap.size (w2.heap.size + 1 + 1 + 1) (w2.heap.size + 1) bo (fun k => B ≤ k ∧ k < w2.heap.size) (fun k => k = w2.heap.size) (fun k => k = w2.heap.size + 1 + 1) 0 0 [] [] [] (.slice none 0 0) (.slice none 0 0) (.slice (some ⟨w2.heap.size + 1 + 1, 0, none⟩) 0 0)
      ((((w2.alloc (.cells #[.slice none 0 0, .slice none 0 0, .int .i64 0] 29)).alloc (.cells #[.pointer (some ⟨w2.heap.size, 0, none⟩)] 26)).alloc (.cells #[] 9)).alloc (.cells #[.slice (some ⟨w2.heap.size + 1 + 1, 0, none⟩) 0 0] 30)) := by
  have hbo := lt_of_heap hO
  have hs := hf.size
  have f1 : Fr (fun _ => False) w2 (w2.alloc (.cells #[.slice none 0 0, .slice none 0 0, .int .i64 0] 29)) := (Fr.refl _ _).alloc _
  have f2 := f1.alloc (.cells #[.pointer (some ⟨w2.heap.size, 0, none⟩)] 26)
  have f3 := f2.alloc (.cells #[] 9)
  have f4 := f3.alloc (.cells #[.slice (some ⟨w2.heap.size + 1 + 1, 0, none⟩) 0 0] 30)
  have hr : ((((w2.alloc (.cells #[.slice none 0 0, .slice none 0 0, .int .i64 0] 29)).alloc (.cells #[.pointer (some ⟨w2.heap.size, 0, none⟩)] 26)).alloc (.cells #[] 9)).alloc (.cells #[.slice (some ⟨w2.heap.size + 1 + 1, 0, none⟩) 0 0] 30)).heap[w2.heap.size]? = some (.cells #[.slice none 0 0, .slice none 0 0, .int .i64 0] 29 (0, 0)) := by
    rw [heap_alloc_lt _ _ _ (by simp <;> omega), heap_alloc_lt _ _ _ (by simp <;> omega), heap_alloc_lt _ _ _ (by simp <;> omega)]
    exact heap_alloc_eq _ _
  refine ⟨(hq.mono (fun k hk h => ⟨h, hk⟩)).fr f4 (fun _ _ _ h => h), ⟨hr, Sb.Own.nil _ _ _ _, Sb.Own.nil _ _ _ _, fun k h => by simp [Value.ownBlock] at h, rfl⟩, ?_, heap_alloc_n _ _ _ (by simp), ?_, f4.get hO id, ?_, ?_, ?_, ?_, ?_, ?_, hf.trans f4 (fun _ _ h => h), by omega, by omega, h0⟩
  · have := (Sb.Own.empty 9 1 (fun k => k = w2.heap.size + 1 + 1) ((w2.alloc (.cells #[.slice none 0 0, .slice none 0 0, .int .i64 0] 29)).alloc (.cells #[.pointer (some ⟨w2.heap.size, 0, none⟩)] 26)) (by simp)).alloc (.cells #[.slice (some ⟨w2.heap.size + 1 + 1, 0, none⟩) 0 0] 30)
    simpa using this
  · rw [heap_alloc_lt _ _ _ (by simp), heap_alloc_lt _ _ _ (by simp)]
    exact heap_alloc_n _ _ _ (by simp)
  · intro k h1 h2; omega
  · intro k h1 h2; omega
  · intro k h1 h2; omega
  · exact ⟨fun k hk => by simp; omega, fun k hk => by omega, by omega, by omega, by omega⟩
  · exact ⟨fun k hk => by simp; omega, fun k hk => by omega, by omega, by omega, by omega⟩
  · exact ⟨fun k hk => by simp; omega, fun k hk => by omega, by omega, by omega, by omega⟩

theorem own_slice {E : TypeId} {size : Nat} {F : Nat → Prop} {v : Value} {n : Nat} {xs : List Value} (h : Sb.Own E size F w v n xs) : ∃ ad c, v = .slice ad n c := by
  rcases h.shape with ⟨rfl, rfl, _⟩ | ⟨g, cap, rfl, _⟩
  · exact ⟨_, _, rfl⟩
  · exact ⟨_, _, rfl⟩

theorem TxSt.none (h : TxSt w0 bq bm br bA bR bo F1 F2 F3 gq gr lq L all tv sv av w) (hf : Fr (fun _ => False) w w') : TxSt w0 bq bm br bA bR bo F1 F2 F3 gq gr lq L all tv sv av w' :=
  h.frame hf (fun _ _ h => h) (fun _ _ h => h) (fun _ _ h => h) id id id (fun _ h => h.elim)

end

/-- One that joined: its block, its ticket, the number of its text, its text. -/
structure Jn where
  b : Nat
  t : Int
  j : Nat
  s : ByteArray

def Jn.nd (e : Jn) : Nd := ⟨e.b, e.t, .string e.s⟩
def Jn.pr (e : Jn) : Int × Int := (e.t, (e.j : Int))

theorem jn_split {E : List Jn} (hk : ((E.map Jn.nd).map Nd.t).Nodup) {t : Int} (h : ∃ e ∈ E, e.t = t) : ∃ us b j s vs, E = us ++ ⟨b, t, j, s⟩ :: vs ∧ ∀ p ∈ us.map Jn.pr, p.1 ≠ t := by
  obtain ⟨e, he, rfl⟩ := h
  obtain ⟨us, vs, rfl⟩ := List.append_of_mem he
  refine ⟨us, e.b, e.j, e.s, vs, rfl, fun p hp => ?_⟩
  obtain ⟨u, hu, rfl⟩ := List.mem_map.1 hp
  rw [List.map_append, List.map_append, List.nodup_append] at hk
  exact hk.2.2 _ (List.mem_map.2 ⟨_, List.mem_map.2 ⟨u, hu, rfl⟩, rfl⟩) _ (List.mem_map.2 ⟨_, List.mem_map.2 ⟨e, List.mem_cons_self, rfl⟩, rfl⟩)

theorem nx_get {α β : Type} {f : α → β} {E : List α} {pre : List β} {x : β} (h : pre ++ [x] <+: E.map f) : ∃ e, E[pre.length]? = some e ∧ x = f e := by
  obtain ⟨r, hr⟩ := h
  have h1 : (E.map f)[pre.length]? = some x := by
    rw [← hr, List.append_assoc, List.getElem?_append_right (Nat.le_refl _)]
    simp
  rw [List.getElem?_map] at h1
  cases he : E[pre.length]? with
  | none => rw [he] at h1; cases h1
  | some e =>
    rw [he] at h1
    exact ⟨e, rfl, (Option.some.inj h1).symm⟩

end Go.Proofs.Ytolonoabipnpfaa
