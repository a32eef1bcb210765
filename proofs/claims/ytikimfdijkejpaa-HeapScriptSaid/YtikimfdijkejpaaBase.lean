/- Shared lemmas on worlds, frames and maps with whole-number keys. -/
import Derived.WalkKit
import Derived.WalkSpells
import Derived.WalkLawsBesides
import Derived.Deep.Draws
import Derived.Deep.QuietTactic
import Derived.BigQuiet
import Derived.RangeFuncRecord
import Derived.Lib.Hide
import Derived.MapKept
namespace Go.Sb
open Go.RowKit

/-! ### frames -/

/-- Of the blocks that were there only those with F may have turned. -/
structure Fr (F : Nat → Prop) (w w' : World) : Prop where
  os : w'.os = w.os
  tape : w'.tape = w.tape
  output : w'.output = w.output
  size : w.heap.size ≤ w'.heap.size
  block : ∀ k, k < w.heap.size → ¬ F k → w'.heap[k]? = w.heap[k]?

/-- F, or new since w. -/
def ex (F : Nat → Prop) (w : World) : Nat → Prop := fun k => F k ∨ w.heap.size ≤ k

theorem ex_of {F : Nat → Prop} {w : World} {k : Nat} (h : F k) : ex F w k := .inl h
theorem ex_new {F : Nat → Prop} {w : World} {k : Nat} (h : w.heap.size ≤ k) : ex F w k := .inr h

theorem Fr.refl (F : Nat → Prop) (w : World) : Fr F w w := ⟨rfl, rfl, rfl, Nat.le_refl _, fun _ _ _ => rfl⟩

theorem Fr.trans {F F' : Nat → Prop} {a b c : World} (h : Fr F a b) (k : Fr F' b c) (hF : ∀ i, i < a.heap.size → F' i → F i) : Fr F a c :=
  ⟨k.os.trans h.os, k.tape.trans h.tape, k.output.trans h.output, Nat.le_trans h.size k.size,
   fun i hi hn => (k.block i (Nat.lt_of_lt_of_le hi h.size) (fun hc => hn (hF i hi hc))).trans (h.block i hi hn)⟩

theorem Fr.mono {F F' : Nat → Prop} {a b : World} (h : Fr F a b) (hF : ∀ i, i < a.heap.size → F i → F' i) : Fr F' a b :=
  ⟨h.os, h.tape, h.output, h.size, fun i hi hn => h.block i hi (fun hc => hn (hF i hi hc))⟩

theorem Fr.trans' {F : Nat → Prop} {a b c : World} (h : Fr F a b) (k : Fr (ex F a) b c) : Fr F a c :=
  h.trans k (fun i hi hx => hx.elim id (fun hle => absurd hle (by omega)))

theorem Fr.own {F : Nat → Prop} {w a b : World} (h : Fr F w a) (k : Fr (fun k => w.heap.size ≤ k) a b) : Fr F w b := h.trans k (fun i hi hx => absurd hx (by omega))

theorem Fr.alloc {F : Nat → Prop} {a w : World} (h : Fr F a w) (o : Obj) : Fr F a (w.alloc o) :=
  h.trans (F' := fun _ => False) ⟨rfl, rfl, rfl, by simp, fun k hk _ => Below.heap_alloc _ _ _ hk⟩ (fun _ _ hf => hf.elim)

theorem Fr.setCell {F : Nat → Prop} {a w : World} (h : Fr F a w) {p : Addr} (hp : F p.block ∨ a.heap.size ≤ p.block) (u : Value) : Fr F a (w.setCell p u) :=
  h.trans (F' := fun k => k = p.block) ⟨rfl, rfl, rfl, by simp, fun k _ hn => Below.heap_setCell _ _ _ _ hn⟩
    (fun i hi hf => by
      subst hf
      exact hp.elim id (fun hle => absurd hle (by omega)))

theorem Fr.drew {F : Nat → Prop} {a w : World} (h : Fr F a w) : Fr F a w.drew := ⟨h.os, h.tape, h.output, h.size, h.block⟩
theorem Fr.drewN {F : Nat → Prop} {a w : World} (h : Fr F a w) (n : Nat) : Fr F a (w.drewN n) := ⟨h.os, h.tape, h.output, h.size, h.block⟩

theorem heap_putObj_ne (w : World) (r : Nat) (o : Obj) (k : Nat) (h : k ≠ r) : (w.putObj r o).heap[k]? = w.heap[k]? := by
  show (w.heap.setIfInBounds r o)[k]? = _
  rw [Array.getElem?_setIfInBounds_ne (by omega)]

theorem heap_putObj_eq (w : World) (r : Nat) (o : Obj) (h : r < w.heap.size) : (w.putObj r o).heap[r]? = some o := by
  show (w.heap.setIfInBounds r o)[r]? = _
  simp [h]

@[simp] theorem size_putObj (w : World) (r : Nat) (o : Obj) : (w.putObj r o).heap.size = w.heap.size := by
  show (w.heap.setIfInBounds r o).size = _
  simp

theorem Fr.putObj {F : Nat → Prop} {a w : World} (h : Fr F a w) {r : Nat} (hp : F r ∨ a.heap.size ≤ r) (o : Obj) : Fr F a (w.putObj r o) :=
  h.trans (F' := fun k => k = r) ⟨rfl, rfl, rfl, by simp, fun k _ hn => heap_putObj_ne _ _ _ _ hn⟩
    (fun i hi hf => by
      subst hf
      exact hp.elim id (fun hle => absurd hle (by omega)))

theorem Fr.grown {F : Nat → Prop} {a w w' : World} {row : Option Nat} (h : Fr F a w) (hg : w.grownBy w' row) (hr : ∀ k, row = some k → F k ∨ a.heap.size ≤ k) : Fr F a w' :=
  h.trans (F' := fun k => some k = row) ⟨hg.os, hg.tape, hg.output, hg.size, fun k hk hn => hg.block k hk hn⟩
    (fun i hi hf => (hr i hf.symm).elim id (fun hle => absurd hle (by omega)))

theorem Fr.below {B : Nat} {F : Nat → Prop} {w w' : World} (h : Fr F w w') (hF : ∀ k, F k → B ≤ k) (hB : B ≤ w.heap.size) : Below B w w' :=
  ⟨h.os, h.tape, h.output, h.size, fun k hk => h.block k (by omega) (fun hf => by have := hF k hf; omega)⟩

theorem Fr.of_below {B : Nat} {w w' : World} (h : Below B w w') : Fr (fun k => B ≤ k) w w' :=
  ⟨h.os, h.tape, h.output, h.size, fun k _ hn => h.block k (by omega)⟩

theorem Fr.get {F : Nat → Prop} {w w' : World} {k : Nat} {o : Obj} (h : Fr F w w') (hk : w.heap[k]? = some o) (hn : ¬ F k) : w'.heap[k]? = some o :=
  (h.block k (Array.getElem?_eq_some_iff.1 hk).1 hn).trans hk

/-! ### blocks -/

theorem lt_of_heap {w : World} {b : Nat} {o : Obj} (h : w.heap[b]? = some o) : b < w.heap.size := (Array.getElem?_eq_some_iff.1 h).1

theorem cell_of {w : World} {b : Nat} {cs : Array Value} {T : TypeId} {fz : Nat × Nat} (h : w.heap[b]? = some (.cells cs T fz)) (o : Nat) : w.cell? ⟨b, o, none⟩ = cs[o]? := by
  simp [World.cell?, h]

theorem cell_is {w : World} {b : Nat} {cs : Array Value} {T : TypeId} {fz : Nat × Nat} (h : w.heap[b]? = some (.cells cs T fz)) (o : Nat) {v : Value} (hv : cs[o]? = some v) : w.cell? ⟨b, o, none⟩ = some v := by
  rw [cell_of h, hv]

theorem frozen_of {w : World} {b : Nat} {cs : Array Value} {T : TypeId} (h : w.heap[b]? = some (.cells cs T (0, 0))) (o : Nat) : w.frozen? ⟨b, o, none⟩ = false := by
  simp [World.frozen?, h]

theorem heap_alloc_lt (w : World) (o : Obj) (k : Nat) (h : k < w.heap.size) : (w.alloc o).heap[k]? = w.heap[k]? := Below.heap_alloc _ _ _ h
theorem heap_alloc_eq (w : World) (o : Obj) : (w.alloc o).heap[w.heap.size]? = some o := by
  show (w.heap.push o)[w.heap.size]? = _
  simp
theorem heap_setCell_ne (w : World) (a : Addr) (u : Value) (k : Nat) (h : k ≠ a.block) : (w.setCell a u).heap[k]? = w.heap[k]? := Below.heap_setCell _ _ _ _ h
theorem heap_setCell_eq {w : World} {b : Nat} {cs : Array Value} {T : TypeId} {fz : Nat × Nat} (o : Nat) (u : Value) (h : w.heap[b]? = some (.cells cs T fz)) :
    (w.setCell ⟨b, o, none⟩ u).heap[b]? = some (.cells (cs.setIfInBounds o u) T fz) := by
  simp [World.setCell, Array.getElem?_modify, h]
@[simp] theorem heap_drew (w : World) : w.drew.heap = w.heap := rfl
@[simp] theorem heap_drewN (w : World) (n : Nat) : (w.drewN n).heap = w.heap := rfl

/-- Two blocks of unlike element types are two. -/
theorem ne_of_types {w : World} {a b : Nat} {cs ds : Array Value} {S T : TypeId} {f g : Nat × Nat} (h : w.heap[a]? = some (.cells cs S f)) (k : w.heap[b]? = some (.cells ds T g)) (hne : S ≠ T) : a ≠ b := by
  rintro rfl
  rw [h] at k
  simp only [Option.some.injEq, Obj.cells.injEq] at k
  exact hne k.2.1
theorem ne_of_map {w : World} {a b : Nat} {cs : Array Value} {S : TypeId} {f : Nat × Nat} {es : Array MapEntry} {c : Nat} (h : w.heap[a]? = some (.cells cs S f)) (k : w.heap[b]? = some (.map es c)) : a ≠ b := by
  rintro rfl
  rw [h] at k
  cases k

/-! ### functions against nil -/

theorem run_equalIn_func_nil {P : Program} {t : TypeId} {ps rs : Array TypeId} {b : Bool} (h : P.underlying t = some (.func ps rs b)) (d : Nat) (w : World) (f : Fn) (x y : Array Value) :
    (Op.equalIn (d + 1) t (.func f x y) .nilFunc).run P w = .ok false w := by simp [Op.equalIn, run_underlying h]
theorem run_equal_func_nil {P : Program} {t : TypeId} {ps rs : Array TypeId} {b : Bool} (h : P.underlying t = some (.func ps rs b)) (w : World) (f : Fn) (x y : Array Value) :
    (Op.equal t (.func f x y) .nilFunc).run P w = .ok false w := run_equalIn_func_nil h 9999 w f x y
theorem run_eql_func_nil {P : Program} {t : TypeId} {ps rs : Array TypeId} {b : Bool} (h : P.underlying t = some (.func ps rs b)) (w : World) (f : Fn) (x y : Array Value) :
    (binOp .eql t (.func f x y) .nilFunc).run P w = .ok (.bool false) w := by
  simp only [binOp]
  simp [run_equal_func_nil h]
theorem run_neq_func_nil {P : Program} {t : TypeId} {ps rs : Array TypeId} {b : Bool} (h : P.underlying t = some (.func ps rs b)) (w : World) (f : Fn) (x y : Array Value) :
    (binOp .neq t (.func f x y) .nilFunc).run P w = .ok (.bool true) w := by
  simp only [binOp]
  simp [run_equal_func_nil h]

/-! ### maps with keys of kind int: a list of pairs, in the order in which the keys came -/

def kv (e : MapEntry) : Value × Value := (e.key, e.val)
def ik (p : Int × Value) : Value × Value := (.int .i64 p.1, p.2)

/-- The object is a map of just these pairs. -/
def IsMap (o : Obj) (m : List (Int × Value)) : Prop := ∃ es clock, o = .map es clock ∧ es.toList.map kv = m.map ik
def HasMap (w : World) (b : Nat) (m : List (Int × Value)) : Prop := ∃ o, w.heap[b]? = some o ∧ IsMap o m

theorem HasMap.lt {w : World} {b : Nat} {m : List (Int × Value)} (h : HasMap w b m) : b < w.heap.size := by
  obtain ⟨o, h, _⟩ := h
  exact lt_of_heap h
theorem HasMap.of {w w' : World} {b : Nat} {m : List (Int × Value)} (h : HasMap w b m) (he : w'.heap[b]? = w.heap[b]?) : HasMap w' b m := by
  obtain ⟨o, h, k⟩ := h
  exact ⟨o, he.trans h, k⟩
theorem HasMap.ne {w : World} {b c : Nat} {m : List (Int × Value)} (h : HasMap w b m) {cs : Array Value} {S : TypeId} {f : Nat × Nat} (k : w.heap[c]? = some (.cells cs S f)) : c ≠ b := by
  obtain ⟨o, h, es, clock, rfl, _⟩ := h
  exact ne_of_map k h
theorem HasMap.alloc {w : World} {b : Nat} {m : List (Int × Value)} (h : HasMap w b m) (o : Obj) : HasMap (w.alloc o) b m :=
  h.of (heap_alloc_lt _ _ _ h.lt)
theorem HasMap.setCell {w : World} {b : Nat} {m : List (Int × Value)} (h : HasMap w b m) (a : Addr) (v : Value) : HasMap (w.setCell a v) b m := by
  obtain ⟨o, h, es, clock, rfl, k⟩ := h
  refine ⟨_, ?_, es, clock, rfl, k⟩
  by_cases e : b = a.block
  · subst e
    simp [World.setCell, Array.getElem?_modify, h]
  · rw [heap_setCell_ne _ _ _ _ e]
    exact h
theorem HasMap.drew {w : World} {b : Nat} {m : List (Int × Value)} (h : HasMap w b m) : HasMap w.drew b m := h
theorem HasMap.drewN {w : World} {b : Nat} {m : List (Int × Value)} (h : HasMap w b m) (n : Nat) : HasMap (w.drewN n) b m := h
theorem HasMap.made (w : World) : HasMap (w.alloc (.map #[] 0)) w.heap.size [] := ⟨_, heap_alloc_eq _ _, _, _, rfl, rfl⟩
theorem HasMap.put {w : World} {b : Nat} {m' : List (Int × Value)} {o : Obj} (h : b < w.heap.size) (ho : IsMap o m') : HasMap (w.putObj b o) b m' := ⟨o, heap_putObj_eq _ _ _ h, ho⟩

theorem cell?_putObj (w : World) (r : Nat) (o : Obj) (a : Addr) (h : a.block ≠ r) : (w.putObj r o).cell? a = w.cell? a := World.cell?_of_block (w := w) (heap_putObj_ne w r o a.block h)
theorem frozen?_putObj (w : World) (r : Nat) (o : Obj) (a : Addr) (h : a.block ≠ r) : (w.putObj r o).frozen? a = w.frozen? a := World.frozen?_of_block (w := w) (heap_putObj_ne w r o a.block h)

theorem split_keys {es : List MapEntry} {as bs : List (Int × Value)} {x : Int} {v : Value} (h : es.map kv = (as ++ (x, v) :: bs).map ik) :
    ∃ es1 e es2, es = es1 ++ e :: es2 ∧ es1.map kv = as.map ik ∧ e.key = .int .i64 x ∧ e.val = v ∧ es2.map kv = bs.map ik := by
  rw [List.map_append, List.map_cons] at h
  obtain ⟨es1, r, rfl, h1, h2⟩ := List.map_eq_append_iff.1 h
  obtain ⟨e, es2, rfl, h3, h4⟩ := List.map_eq_cons_iff.1 h2
  exact ⟨es1, e, es2, rfl, h1, congrArg Prod.fst h3, congrArg Prod.snd h3, h4⟩

theorem isKeys {es : List MapEntry} {m : List (Int × Value)} (h : es.map kv = m.map ik) {e : MapEntry} (he : e ∈ es) : ∃ t, e.key = .int .i64 t ∧ t ∈ m.map Prod.fst := by
  have : kv e ∈ es.map kv := List.mem_map.2 ⟨e, he, rfl⟩
  rw [h] at this
  obtain ⟨p, hp, hpe⟩ := List.mem_map.1 this
  exact ⟨p.1, (congrArg Prod.fst hpe).symm, List.mem_map.2 ⟨p, hp, rfl⟩⟩

theorem modify_mid {α : Type} (f : α → α) : ∀ (as : List α) (e : α) (bs : List α), (as ++ e :: bs).modify as.length f = as ++ f e :: bs
  | [], _, _ => rfl
  | a :: as, e, bs => by
    simp only [List.cons_append, List.length_cons, List.modify_succ_cons, modify_mid f as e bs]

theorem findNow_none (x : Int) : ∀ (es : List MapEntry) (i : Nat), (∀ e ∈ es, ∃ t, e.key = .int .i64 t ∧ t ≠ x) → Instr.findNow (.int .i64) (.int .i64 x) es i = some none
  | [], _, _ => rfl
  | e :: es, i, h => by
    obtain ⟨t, ht, hne⟩ := h e (by simp)
    have hb : (x == t) = false := by simpa using fun h => hne h.symm
    simp only [Instr.findNow, ht, Instr.sameNow, if_true, hb]
    exact findNow_none x es (i + 1) (fun e' he' => h e' (by simp [he']))

theorem findNow_some (x : Int) (v : Value) : ∀ (as : List MapEntry) (e : MapEntry) (bs : List MapEntry) (i : Nat), (∀ e ∈ as, ∃ t, e.key = .int .i64 t ∧ t ≠ x) → e.key = .int .i64 x → e.val = v →
    Instr.findNow (.int .i64) (.int .i64 x) (as ++ e :: bs) i = some (some (i + as.length, v))
  | [], e, bs, i, _, hk, hv => by simp [Instr.findNow, hk, Instr.sameNow, hv]
  | a :: as, e, bs, i, h, hk, hv => by
    obtain ⟨t, ht, hne⟩ := h a (by simp)
    have hb : (x == t) = false := by simpa using fun h => hne h.symm
    simp only [List.cons_append, Instr.findNow, ht, Instr.sameNow, if_true, hb]
    rw [findNow_some x v as e bs (i + 1) (fun e' he' => h e' (by simp [he'])) hk hv]
    simp only [List.length_cons]
    congr 3
    omega

section
variable {P : Program} {t k e : TypeId} {w : World} {bm : Nat} {m : List (Int × Value)}

theorem isKey_int (x : Int) : MapKept.IsKey (.int .i64) (.int .i64 x) := by simp [MapKept.IsKey]

theorem run_lookup_none (ht : P.underlying t = some (.map k e)) (hk : P.underlying k = some (.int .i64)) {z : Value} (hz : (zeroValue e).run P w = .ok z w)
    (h : HasMap w bm m) (x : Int) (ok : Bool) (hf : x ∉ m.map Prod.fst) :
    (Instr.lookup t (.map (some bm)) (.int .i64 x) ok).run P w = .ok (if ok then .tuple #[z, .bool false] else z) w := by
  obtain ⟨o, h, es, clock, rfl, hm⟩ := h
  have h1 := findNow_none x es.toList 0 (fun e he => by
    obtain ⟨t, h1, h2⟩ := isKeys hm he
    exact ⟨t, h1, fun h => hf (h ▸ h2)⟩)
  simp [Instr.lookup, run_underlying ht, MapKept.run_getObj_map h, MapKept.run_checkKey hk (isKey_int x), MapKept.run_findKey hk h1, hz, Result.andThen]

theorem run_lookup_some (ht : P.underlying t = some (.map k e)) (hk : P.underlying k = some (.int .i64))
    (h : HasMap w bm m) (x : Int) (v : Value) (ok : Bool) {as bs : List (Int × Value)} (hes : m = as ++ (x, v) :: bs) (hf : x ∉ as.map Prod.fst) :
    (Instr.lookup t (.map (some bm)) (.int .i64 x) ok).run P w = .ok (if ok then .tuple #[v, .bool true] else v) w := by
  obtain ⟨o, h, es, clock, rfl, hm⟩ := h
  subst hes
  obtain ⟨es1, en, es2, he, h1, h2, h3, h4⟩ := split_keys hm
  have h5 := findNow_some x v es1 en es2 0 (fun e he => by
    obtain ⟨t, h6, h7⟩ := isKeys h1 he
    exact ⟨t, h6, fun h => hf (h ▸ h7)⟩) h2 h3
  rw [← he] at h5
  simp [Instr.lookup, run_underlying ht, MapKept.run_getObj_map h, MapKept.run_checkKey hk (isKey_int x), MapKept.run_findKey hk h5, Result.andThen]

theorem run_mapUpdate_new (ht : P.underlying t = some (.map k e)) (hk : P.underlying k = some (.int .i64))
    (h : HasMap w bm m) (x : Int) (v : Value) (hf : x ∉ m.map Prod.fst) :
    ∃ o, IsMap o (m ++ [(x, v)]) ∧ (Instr.mapUpdate t (.map (some bm)) (.int .i64 x) v).run P w = .ok () (w.putObj bm o) := by
  obtain ⟨o, h, es, clock, rfl, hm⟩ := h
  have h1 := findNow_none x es.toList 0 (fun e he => by
    obtain ⟨t, h1, h2⟩ := isKeys hm he
    exact ⟨t, h1, fun h => hf (h ▸ h2)⟩)
  refine ⟨.map (es.push { key := .int .i64 x, val := v, born := clock }) (clock + 1), ⟨_, _, rfl, by simp [hm, kv, ik]⟩, ?_⟩
  simp [Instr.mapUpdate, run_underlying ht, MapKept.run_getObj_map h, MapKept.run_checkKey hk (isKey_int x), MapKept.run_findKey hk h1, MapKept.run_setObj_map _ h, Result.andThen, World.putObj]

theorem run_mapUpdate_old (ht : P.underlying t = some (.map k e)) (hk : P.underlying k = some (.int .i64))
    (h : HasMap w bm m) (x : Int) (u v : Value) {as bs : List (Int × Value)} (hes : m = as ++ (x, u) :: bs) (hf : x ∉ as.map Prod.fst) :
    ∃ o, IsMap o (as ++ (x, v) :: bs) ∧ (Instr.mapUpdate t (.map (some bm)) (.int .i64 x) v).run P w = .ok () (w.putObj bm o) := by
  obtain ⟨o, h, es, clock, rfl, hm⟩ := h
  subst hes
  obtain ⟨es1, en, es2, he, h1, h2, h3, h4⟩ := split_keys hm
  have h5 := findNow_some x u es1 en es2 0 (fun e he => by
    obtain ⟨t, h6, h7⟩ := isKeys h1 he
    exact ⟨t, h6, fun h => hf (h ▸ h7)⟩) h2 h3
  rw [← he] at h5
  have hi : es[es1.length]? = some en := by
    rw [← Array.getElem?_toList, he]
    simp
  refine ⟨.map (es.modify es1.length fun e => { e with key := .int .i64 x, val := v }) clock, ⟨_, _, rfl, ?_⟩, ?_⟩
  · rw [Array.toList_modify, he]
    rw [modify_mid]
    simp [h1, h4, kv, ik]
  · simp [Instr.mapUpdate, run_underlying ht, MapKept.run_getObj_map h, MapKept.run_checkKey hk (isKey_int x), MapKept.run_findKey hk h5, MapKept.run_setObj_map _ h, Result.andThen, World.putObj, hi, h2, MapKept.run_keyThatStays (isKey_int x)]

theorem run_delete_old (ht : P.underlying t = some (.map k e)) (hk : P.underlying k = some (.int .i64)) (kt ty : TypeId)
    (h : HasMap w bm m) (x : Int) (u : Value) {as bs : List (Int × Value)} (hes : m = as ++ (x, u) :: bs) (hf : x ∉ as.map Prod.fst) :
    ∃ o, IsMap o (as ++ bs) ∧ (Builtin.delete_ #[t, kt] ty #[.map (some bm), .int .i64 x]).run P w = .ok (.tuple #[]) (w.putObj bm o) := by
  obtain ⟨o, h, es, clock, rfl, hm⟩ := h
  subst hes
  obtain ⟨es1, en, es2, he, h1, h2, h3, h4⟩ := split_keys hm
  have h5 := findNow_some x u es1 en es2 0 (fun e he => by
    obtain ⟨t, h6, h7⟩ := isKeys h1 he
    exact ⟨t, h6, fun h => hf (h ▸ h7)⟩) h2 h3
  rw [← he] at h5
  refine ⟨.map (es.eraseIdxIfInBounds es1.length) clock, ⟨_, _, rfl, ?_⟩, ?_⟩
  · rw [Array.toList_eraseIdxIfInBounds, he]
    simp [List.eraseIdx_append_of_length_le, h1, h4]
  · simp [Builtin.delete_, run_underlying ht, MapKept.run_getObj_map h, MapKept.run_checkKey hk (isKey_int x), MapKept.run_findKey hk h5, MapKept.run_setObj_map _ h, Result.andThen, World.putObj]

theorem run_clear_map (ht : P.underlying t = some (.map k e)) (ty : TypeId) (h : HasMap w bm m) :
    ∃ o, IsMap o [] ∧ (Builtin.clear_ #[t] ty #[.map (some bm)]).run P w = .ok (.tuple #[]) (w.putObj bm o) := by
  obtain ⟨o, h, es, clock, rfl, hm⟩ := h
  refine ⟨.map #[] clock, ⟨_, _, rfl, rfl⟩, ?_⟩
  simp [Builtin.clear_, run_underlying ht, MapKept.run_getObj_map h, MapKept.run_setObj_map _ h, Result.andThen, World.putObj]

theorem run_len_map (ht : P.underlying t = some (.map k e)) (ty : TypeId) (h : HasMap w bm m) :
    (Builtin.len_ #[t] ty #[.map (some bm)]).run P w = .ok (.int .i64 m.length) w := by
  obtain ⟨o, h, es, clock, rfl, hm⟩ := h
  have hl : es.size = m.length := by
    have := congrArg List.length hm
    simpa using this
  simp [Builtin.len_, run_underlying ht, MapKept.run_getObj_map h, Result.andThen, goInt, hl]

end
end Go.Sb
