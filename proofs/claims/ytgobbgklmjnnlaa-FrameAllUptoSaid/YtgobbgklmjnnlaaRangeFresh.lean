/- A range over a function that lays what it gives: the body is told which thing comes, and that it is new. -/
import Derived.Test.YtgobbgklmjnnlaaRangeNext
namespace Go.Sb
open Go.RowKit

/-- What an iterator's function does with any loop's round: Nx says which thing may come behind those that came, and what was laid for it between two worlds; Kp what a round that goes on keeps. -/
def Fresh {α : Type} (P : Program) (gf : Nat) (lb : Array Value) (encs : α → Array Value) (Kp : World → World → Prop) (Nx : List α → α → World → World → Prop) (S Sp : List α → Prop) (w : World) : Prop :=
  ∀ (l : Nat) (J Jx : List α → World → Prop) (W : World), Below w.heap.size w W → AbidesFrom W.heap.size J → AbidesFrom W.heap.size Jx →
    (∀ pre x W1 W2, J pre W1 → Nx pre x W1 W2 → YieldAt Fence.wide 0 P l (encs x) W2 fun e W' =>
      (e = .returned (.bool true) ∧ J (pre ++ [x]) W' ∧ Kp W2 W') ∨ (e = .returned (.bool false) ∧ Jx (pre ++ [x]) W')) →
    J [] W →
    CallsIn Fence.wide 0 P gf (#[.func (.yield l) #[] #[]] ++ lb) W fun e W' => (∃ v, e = .returned v) ∧ ((∃ xs, S xs ∧ J xs W') ∨ (∃ pre, Sp pre ∧ Jx pre W'))

theorem wpIn_rangeFresh {α : Type} {P : Program} {g : Operand} {ps : Array Tmp} {assign body : Code} {Q : Exit → Act → World → Prop} {a : Act} {w : World}
    {gf : Nat} {lb : Array Value} (hg : a.eval g = .func (.func gf) #[] lb) (eg : ∀ args w, (callFunc gf args).run P w = .ok (.enter gf args) w)
    {encs : α → Array Value} {Kp : World → World → Prop} {Nx : List α → α → World → World → Prop} {S Sp : List α → Prop} {w0 : World} (hseq : Fresh P gf lb encs Kp Nx S Sp w0)
    (hKt : ∀ {A B C : World}, Kp A B → Kp B C → Kp A C) (hKb : ∀ (W : World) (l : Nat) (o o' : Obj), w.heap.size ≤ l → W.heap[l]? = some o → o.isCells = false → o.isWalk = false → Kp W (W.putObj l o')) (hb0 : Below w0.heap.size w0 w) (hps : ∀ x, (encs x).size = ps.size)
    (I : List α → World → Prop) (Ix : Code → List α → World → Prop) (hI : OwnFrom w.heap.size I) (hIx : ∀ c, OwnFrom w.heap.size (Ix c)) (h0 : I [] w)
    (hN : ∀ pre x W1 W2, Nx pre x W1 W2 → Fr (fun _ => False) W1 W2) (hNp : ∀ pre x W1 W2 r o, Nx pre x W1 W2 → r < W1.heap.size → Nx pre x (W1.putObj r o) (W2.putObj r o))
    (hround : ∀ (l : Nat) (pre : List α) (x : α) (V W1 W : World), I pre W1 → Nx pre x W1 W →
      assign.wpIn (Fence.wide.inRound l) 0 P (Exit.then (fun a₁ V₁ => V₁ = V ∧ body.wpIn (Fence.wide.inRound l) 0 P (ownPostG w.heap.size Kp I Ix (pre ++ [x]) W) a₁ W) (fun _ _ _ => False))
        { tmps := (ps.zip (encs x)).foldl (fun t (p, v) => t.setIfInBounds p v) a.tmps, defers := [] } V)
    (hdone : ∀ (D : Nat) (xs : List α) (W : World), w.heap.size ≤ D → S xs → I xs W → W.heap[D]? = some (.deferred (some [])) → Q .normal { a with defers := { target := .collected D, args := #[] } :: a.defers } W)
    (hstop : ∀ (D : Nat) (c : Code) (pre : List α) (W : World), w.heap.size ≤ D → Sp pre → Ix c pre W → W.heap[D]? = some (.deferred (some [])) → c.wpIn Fence.wide 1 P Q { a with defers := { target := .collected D, args := #[] } :: a.defers } W) :
    (Code.rangeFunc g ps assign body).wpIn Fence.wide 1 P Q a w := by
  refine wpIn_rangeFunc ?_
  intro fn hfn
  have hro : Fence.wide.round = none := rfl
  rw [hro]
  -- the loop's record in each of its states; the world in which the iterator begins
  let rc : LoopState → Option Code → Obj := fun st pe => .loop { state := st, pending := pe, fn, tmps := a.tmps, params := ps, assign, body, defers := w.heap.size }
  let V : World := (w.alloc (.deferred (some []))).alloc (rc .ready none)
  have hV : V = (w.alloc (.deferred (some []))).alloc (rc .ready none) := rfl
  have hVs : V.heap.size = w.heap.size + 2 := by rw [hV]; simp
  have bV : Below w.heap.size w V := ((Below.refl _ w).alloc (Nat.le_refl _) _).alloc (by simp) _
  have lV : V.heap[w.heap.size + 1]? = some (rc .ready none) := by
    have h := World.alloc_heap_new (w.alloc (.deferred (some []))) (rc .ready none)
    rwa [World.size_alloc] at h
  have kV : V.heap[w.heap.size]? = some (.deferred (some [])) := (Below.heap_alloc _ _ _ (by simp)).trans (World.alloc_heap_new w _)
  have iV : I [] V := hI.alloc _ (hI.alloc _ h0)
  refine ⟨w.heap.size + 1, [{ target := .collected w.heap.size, args := #[] }], V, { target := .fn (.func gf) lb, args := #[.func (.yield (w.heap.size + 1)) #[] #[]] }, V, gf,
    #[.func (.yield (w.heap.size + 1)) #[] #[]] ++ lb, V, run_enterLoop_outer _ _ _ _ _, by simp only [resolve, hg]; simp [go_sem], fun _ _ => trivial, by simp [invoke, go_sem, eg], fun h => by simp [Fence.wide] at h, ?_⟩
  -- what the loop itself keeps beside the caller's invariant
  let Bk : LoopState → Option Code → World → Prop := fun st pe W => W.heap[w.heap.size + 1]? = some (rc st pe) ∧ W.heap[w.heap.size]? = some (.deferred (some []))
  have far : ∀ {A : World} {row : Option Nat}, (∀ r, row = some r → V.heap.size ≤ r ∧ ∃ o : Obj, A.heap[r]? = some o ∧ o.isWalk = true) → ∀ r, row = some r → w.heap.size ≤ r ∧ ∃ o : Obj, A.heap[r]? = some o ∧ o.isCells = false :=
    fun hr r e => by
      obtain ⟨h1, o, h2, h3⟩ := hr r e
      exact ⟨by omega, o, h2, Obj.not_cells_of_walk h3⟩
  have stay : ∀ {st pe} {A B : World} {row : Option Nat}, Bk st pe A → A.grownBy B row → (∀ r, row = some r → V.heap.size ≤ r ∧ ∃ o : Obj, A.heap[r]? = some o ∧ o.isWalk = true) → Bk st pe B :=
    fun h hgr hr => by
      refine ⟨(hgr.block _ (lt_of_heap h.1) (fun e => ?_)).trans h.1, (hgr.block _ (lt_of_heap h.2) (fun e => ?_)).trans h.2⟩
      · have := (hr _ e.symm).1
        omega
      · have := (hr _ e.symm).1
        omega
  refine (hseq (w.heap.size + 1) (fun pre W => I pre W ∧ Bk .ready none W) (fun pre W => ∃ c, Ix c pre W ∧ Bk .done (some c) W) V (hb0.trans (bV.mono hb0.size))
    (fun s A B row hs hgr hr => ⟨hI s A B row hs.1 hgr (far hr), stay hs.2 hgr hr⟩)
    (fun s A B row hs hgr hr => by
      obtain ⟨c, hc, hb⟩ := hs
      exact ⟨c, hIx c s A B row hc hgr (far hr), stay hb hgr hr⟩) ?_ ⟨iV, lV, kV⟩).mono ?_
  · rintro pre x A1 A ⟨hi, hl1, hk1⟩ hnx
    have hfA := hN _ _ _ _ hnx
    have hl := hfA.get hl1 id
    have hk := hfA.get hk1 id
    have hlt1 := lt_of_heap hl1
    have hlt := lt_of_heap hl
    refine ⟨fn, _, assign, body, run_yield hl (hps x), roundIn_of_wpIn hfn (wpIn_mono (hround (w.heap.size + 1) pre x A (A1.putObj (w.heap.size + 1) (rc .busy none)) (A.putObj (w.heap.size + 1) (rc .busy none)) (hI.putObj (rc .busy none) hi (by omega) hl1 rfl) (hNp _ _ _ _ _ _ hnx hlt1)) ?_)⟩
    rintro e0 a0 A0 he0
    have hn : e0 = .normal := by cases e0 <;> first | rfl | exact he0.elim
    subst hn
    obtain ⟨hA, hbd⟩ := he0
    rw [hA]
    refine ⟨_, run_beginRound hl rfl, ?_⟩
    have kA : Kp A (A.putObj (w.heap.size + 1) (rc .busy none)) := hKb _ _ _ _ (by omega) hl rfl rfl
    have lA : (A.putObj (w.heap.size + 1) (rc .busy none)).heap[w.heap.size + 1]? = some (rc .busy none) := heap_putObj_eq _ _ _ hlt
    have dA : (A.putObj (w.heap.size + 1) (rc .busy none)).heap[w.heap.size]? = some (.deferred (some [])) := (heap_putObj_ne _ _ _ _ (by omega)).trans hk
    have out : ∀ (jump : Option Code) (C : World), KeepsFrom w.heap.size (A.putObj (w.heap.size + 1) (rc .busy none)) C →
        (Instr.endRound (w.heap.size + 1) jump).run P C = .ok (.bool jump.isNone) (C.putObj (w.heap.size + 1) (rc (if jump.isNone then .ready else .done) jump)) ∧
        C.heap[w.heap.size + 1]? = some (rc .busy none) ∧ Bk (if jump.isNone then .ready else .done) jump (C.putObj (w.heap.size + 1) (rc (if jump.isNone then .ready else .done) jump)) := fun jump C hC => by
      have hc := hC.same _ _ (by omega) lA rfl
      exact ⟨run_endRound jump hc, hc, heap_putObj_eq _ _ _ (lt_of_heap hc), (heap_putObj_ne _ _ _ _ (by omega)).trans (hC.same _ _ (Nat.le_refl _) dA rfl)⟩
    have gone : ∀ (c : Code) (C : World), KeepsFrom w.heap.size (A.putObj (w.heap.size + 1) (rc .busy none)) C → Ix c (pre ++ [x]) C →
        Ix c (pre ++ [x]) (C.putObj (w.heap.size + 1) (rc .done (some c))) ∧ Bk .done (some c) (C.putObj (w.heap.size + 1) (rc .done (some c))) := fun c C hC hx => by
      obtain ⟨_, hc, hb⟩ := out (some c) C hC
      exact ⟨(hIx c).putObj _ hx (by omega) hc rfl, hb⟩
    refine wpIn_mono hbd ?_
    rintro e a3 C hp
    cases e with
    | normal =>
      obtain ⟨hC, hkC, hiC⟩ := hp
      obtain ⟨hr, hc, hb⟩ := out none C hC
      exact ⟨_, _, hr, .inl ⟨rfl, ⟨hI.putObj _ hiC (by omega) hc rfl, hb⟩, hKt (hKt kA hkC) (hKb _ _ _ _ (by omega) hc rfl rfl)⟩⟩
    | ret =>
      obtain ⟨hC, hiC⟩ := hp
      exact ⟨_, _, (out (some .ret) C hC).1, .inr ⟨rfl, .ret, gone _ C hC hiC⟩⟩
    | exit id =>
      obtain ⟨hC, hiC⟩ := hp
      exact ⟨_, _, (out (some (.exit id)) C hC).1, .inr ⟨rfl, .exit id, gone _ C hC hiC⟩⟩
    | goto t =>
      obtain ⟨hC, hiC⟩ := hp
      exact ⟨_, _, (out (some (.goto t)) C hC).1, .inr ⟨rfl, .goto t, gone _ C hC hiC⟩⟩
    | panic ch => exact hp.elim
    | outgrown => exact hp.elim
  · rintro e C ⟨⟨v, rfl⟩, (⟨xs, hS, hi, hl, hk⟩ | ⟨pre, hSp, c, hi, hl, hk⟩)⟩
    · exact ⟨none, _, run_endLoop hl (by simp), hdone _ xs _ (Nat.le_refl _) hS (hI.putObj _ hi (by omega) hl rfl) ((heap_putObj_ne _ _ _ _ (by omega)).trans hk)⟩
    · exact ⟨some c, _, run_endLoop hl (by simp), hstop _ c pre _ (Nat.le_refl _) hSp ((hIx c).putObj _ hi (by omega) hl rfl) ((heap_putObj_ne _ _ _ _ (by omega)).trans hk)⟩

end Go.Sb
