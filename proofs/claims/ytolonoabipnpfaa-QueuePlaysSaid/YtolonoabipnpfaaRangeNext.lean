/- A range over a function whose values come in an order that is known: the body is told which one comes. -/
import Derived.RangeFuncWrites
import Derived.RangeFuncNested
import Derived.RangeFuncCalls
import Derived.RangeFuncLeaves
import Derived.Sort.QuietIn
import Derived.Test.YtolonoabipnpfaaBase
namespace Go.Sb
open Go.RowKit

/-- What an iterator's function does with any loop's round: Nx says which thing may come behind those that came; Kp what a round that goes on keeps. -/
def Gives {α : Type} (P : Program) (gf : Nat) (lb : Array Value) (encs : α → Array Value) (Kp : World → World → Prop) (Nx : List α → α → Prop) (S Sp : List α → Prop) (w : World) : Prop :=
  ∀ (l : Nat) (J Jx : List α → World → Prop) (W : World), Below w.heap.size w W → AbidesFrom W.heap.size J → AbidesFrom W.heap.size Jx →
    (∀ pre x W1, J pre W1 → Nx pre x → YieldAt Fence.wide 0 P l (encs x) W1 fun e W' =>
      (e = .returned (.bool true) ∧ J (pre ++ [x]) W' ∧ Kp W1 W') ∨ (e = .returned (.bool false) ∧ Jx (pre ++ [x]) W')) →
    J [] W →
    CallsIn Fence.wide 0 P gf (#[.func (.yield l) #[] #[]] ++ lb) W fun e W' => (∃ v, e = .returned v) ∧ ((∃ xs, S xs ∧ J xs W') ∨ (∃ pre, Sp pre ∧ Jx pre W'))

theorem wpIn_rangeNext {α : Type} {P : Program} {g : Operand} {ps : Array Tmp} {assign body : Code} {Q : Exit → Act → World → Prop} {a : Act} {w : World}
    {gf : Nat} {lb : Array Value} (hg : a.eval g = .func (.func gf) #[] lb) (eg : ∀ args w, (callFunc gf args).run P w = .ok (.enter gf args) w)
    {encs : α → Array Value} {Kp : World → World → Prop} {Nx : List α → α → Prop} {S Sp : List α → Prop} {w0 : World} (hseq : Gives P gf lb encs Kp Nx S Sp w0)
    (hKt : ∀ {A B C : World}, Kp A B → Kp B C → Kp A C) (hKb : ∀ (W : World) (l : Nat) (o o' : Obj), w.heap.size ≤ l → W.heap[l]? = some o → o.isCells = false → o.isWalk = false → Kp W (W.putObj l o')) (hb0 : Below w0.heap.size w0 w) (hps : ∀ x, (encs x).size = ps.size)
    (I : List α → World → Prop) (Ix : Code → List α → World → Prop) (hI : OwnFrom w.heap.size I) (hIx : ∀ c, OwnFrom w.heap.size (Ix c)) (h0 : I [] w)
    (hround : ∀ (l : Nat) (pre : List α) (x : α) (V W : World), I pre W → Nx pre x →
      assign.wpIn (Fence.wide.inRound l) 0 P (Exit.then (fun a₁ V₁ => V₁ = V ∧ body.wpIn (Fence.wide.inRound l) 0 P (ownPostG w.heap.size Kp I Ix (pre ++ [x]) W) a₁ W) (fun _ _ _ => False))
        { tmps := (ps.zip (encs x)).foldl (fun t (p, v) => t.setIfInBounds p v) a.tmps, defers := [] } V)
    (hdone : ∀ (D : Nat) (xs : List α) (W : World), w.heap.size ≤ D → S xs → I xs W → W.heap[D]? = some (.deferred (some [])) → Q .normal { a with defers := { target := .collected D, args := #[] } :: a.defers } W)
    (hstop : ∀ (D : Nat) (c : Code) (pre : List α) (W : World), w.heap.size ≤ D → Sp pre → Ix c pre W → W.heap[D]? = some (.deferred (some [])) → c.wpIn Fence.wide 1 P Q { a with defers := { target := .collected D, args := #[] } :: a.defers } W) :
    (Code.rangeFunc g ps assign body).wpIn Fence.wide 1 P Q a w := by
  refine wpIn_rangeFunc ?_
  intro fn hfn
  have hro : Fence.wide.round = none := rfl
  rw [hro]
  -- the loop's record in each of its states; the world in which the iterator begins
  let rc : LoopState → Option Code → Obj := fun st pe => .loop { state := st, pending := pe, fn, tmps := a.tmps, params := ps, assign, body, defers := w.heap.size }
  let V : World := (w.alloc (.deferred (some []))).alloc (rc .ready none)
  have hV : V = (w.alloc (.deferred (some []))).alloc (rc .ready none) := rfl
  have hVs : V.heap.size = w.heap.size + 2 := by rw [hV]; simp
  have bV : Below w.heap.size w V := ((Below.refl _ w).alloc (Nat.le_refl _) _).alloc (by simp) _
  have lV : V.heap[w.heap.size + 1]? = some (rc .ready none) := by
    have h := World.alloc_heap_new (w.alloc (.deferred (some []))) (rc .ready none)
    rwa [World.size_alloc] at h
  have kV : V.heap[w.heap.size]? = some (.deferred (some [])) := (Below.heap_alloc _ _ _ (by simp)).trans (World.alloc_heap_new w _)
  have iV : I [] V := hI.alloc _ (hI.alloc _ h0)
  refine ⟨w.heap.size + 1, [{ target := .collected w.heap.size, args := #[] }], V, { target := .fn (.func gf) lb, args := #[.func (.yield (w.heap.size + 1)) #[] #[]] }, V, gf,
    #[.func (.yield (w.heap.size + 1)) #[] #[]] ++ lb, V, run_enterLoop_outer _ _ _ _ _, by simp only [resolve, hg]; simp [go_sem], fun _ _ => trivial, by simp [invoke, go_sem, eg], fun h => by simp [Fence.wide] at h, ?_⟩
  -- what the loop itself keeps beside the caller's invariant
  let Bk : LoopState → Option Code → World → Prop := fun st pe W => W.heap[w.heap.size + 1]? = some (rc st pe) ∧ W.heap[w.heap.size]? = some (.deferred (some []))
  have far : ∀ {A : World} {row : Option Nat}, (∀ r, row = some r → V.heap.size ≤ r ∧ ∃ o : Obj, A.heap[r]? = some o ∧ o.isWalk = true) → ∀ r, row = some r → w.heap.size ≤ r ∧ ∃ o : Obj, A.heap[r]? = some o ∧ o.isCells = false :=
    fun hr r e => by
      obtain ⟨h1, o, h2, h3⟩ := hr r e
      exact ⟨by omega, o, h2, Obj.not_cells_of_walk h3⟩
  have stay : ∀ {st pe} {A B : World} {row : Option Nat}, Bk st pe A → A.grownBy B row → (∀ r, row = some r → V.heap.size ≤ r ∧ ∃ o : Obj, A.heap[r]? = some o ∧ o.isWalk = true) → Bk st pe B :=
    fun h hgr hr => by
      refine ⟨(hgr.block _ (lt_of_heap h.1) (fun e => ?_)).trans h.1, (hgr.block _ (lt_of_heap h.2) (fun e => ?_)).trans h.2⟩
      · have := (hr _ e.symm).1
        omega
      · have := (hr _ e.symm).1
        omega
  refine (hseq (w.heap.size + 1) (fun pre W => I pre W ∧ Bk .ready none W) (fun pre W => ∃ c, Ix c pre W ∧ Bk .done (some c) W) V (hb0.trans (bV.mono hb0.size))
    (fun s A B row hs hgr hr => ⟨hI s A B row hs.1 hgr (far hr), stay hs.2 hgr hr⟩)
    (fun s A B row hs hgr hr => by
      obtain ⟨c, hc, hb⟩ := hs
      exact ⟨c, hIx c s A B row hc hgr (far hr), stay hb hgr hr⟩) ?_ ⟨iV, lV, kV⟩).mono ?_
  · rintro pre x A ⟨hi, hl, hk⟩ hnx
    have hlt := lt_of_heap hl
    refine ⟨fn, _, assign, body, run_yield hl (hps x), roundIn_of_wpIn hfn (wpIn_mono (hround (w.heap.size + 1) pre x A (A.putObj (w.heap.size + 1) (rc .busy none)) (hI.putObj (rc .busy none) hi (by omega) hl rfl) hnx) ?_)⟩
    rintro e0 a0 A0 he0
    have hn : e0 = .normal := by cases e0 <;> first | rfl | exact he0.elim
    subst hn
    obtain ⟨hA, hbd⟩ := he0
    rw [hA]
    refine ⟨_, run_beginRound hl rfl, ?_⟩
    have kA : Kp A (A.putObj (w.heap.size + 1) (rc .busy none)) := hKb _ _ _ _ (by omega) hl rfl rfl
    have lA : (A.putObj (w.heap.size + 1) (rc .busy none)).heap[w.heap.size + 1]? = some (rc .busy none) := heap_putObj_eq _ _ _ hlt
    have dA : (A.putObj (w.heap.size + 1) (rc .busy none)).heap[w.heap.size]? = some (.deferred (some [])) := (heap_putObj_ne _ _ _ _ (by omega)).trans hk
    have out : ∀ (jump : Option Code) (C : World), KeepsFrom w.heap.size (A.putObj (w.heap.size + 1) (rc .busy none)) C →
        (Instr.endRound (w.heap.size + 1) jump).run P C = .ok (.bool jump.isNone) (C.putObj (w.heap.size + 1) (rc (if jump.isNone then .ready else .done) jump)) ∧
        C.heap[w.heap.size + 1]? = some (rc .busy none) ∧ Bk (if jump.isNone then .ready else .done) jump (C.putObj (w.heap.size + 1) (rc (if jump.isNone then .ready else .done) jump)) := fun jump C hC => by
      have hc := hC.same _ _ (by omega) lA rfl
      exact ⟨run_endRound jump hc, hc, heap_putObj_eq _ _ _ (lt_of_heap hc), (heap_putObj_ne _ _ _ _ (by omega)).trans (hC.same _ _ (Nat.le_refl _) dA rfl)⟩
    have gone : ∀ (c : Code) (C : World), KeepsFrom w.heap.size (A.putObj (w.heap.size + 1) (rc .busy none)) C → Ix c (pre ++ [x]) C →
        Ix c (pre ++ [x]) (C.putObj (w.heap.size + 1) (rc .done (some c))) ∧ Bk .done (some c) (C.putObj (w.heap.size + 1) (rc .done (some c))) := fun c C hC hx => by
      obtain ⟨_, hc, hb⟩ := out (some c) C hC
      exact ⟨(hIx c).putObj _ hx (by omega) hc rfl, hb⟩
    refine wpIn_mono hbd ?_
    rintro e a3 C hp
    cases e with
    | normal =>
      obtain ⟨hC, hkC, hiC⟩ := hp
      obtain ⟨hr, hc, hb⟩ := out none C hC
      exact ⟨_, _, hr, .inl ⟨rfl, ⟨hI.putObj _ hiC (by omega) hc rfl, hb⟩, hKt (hKt kA hkC) (hKb _ _ _ _ (by omega) hc rfl rfl)⟩⟩
    | ret =>
      obtain ⟨hC, hiC⟩ := hp
      exact ⟨_, _, (out (some .ret) C hC).1, .inr ⟨rfl, .ret, gone _ C hC hiC⟩⟩
    | exit id =>
      obtain ⟨hC, hiC⟩ := hp
      exact ⟨_, _, (out (some (.exit id)) C hC).1, .inr ⟨rfl, .exit id, gone _ C hC hiC⟩⟩
    | goto t =>
      obtain ⟨hC, hiC⟩ := hp
      exact ⟨_, _, (out (some (.goto t)) C hC).1, .inr ⟨rfl, .goto t, gone _ C hC hiC⟩⟩
    | panic ch => exact hp.elim
    | outgrown => exact hp.elim
  · rintro e C ⟨⟨v, rfl⟩, (⟨xs, hS, hi, hl, hk⟩ | ⟨pre, hSp, c, hi, hl, hk⟩)⟩
    · exact ⟨none, _, run_endLoop hl (by simp), hdone _ xs _ (Nat.le_refl _) hS (hI.putObj _ hi (by omega) hl rfl) ((heap_putObj_ne _ _ _ _ (by omega)).trans hk)⟩
    · exact ⟨some c, _, run_endLoop hl (by simp), hstop _ c pre _ (Nat.le_refl _) hSp ((hIx c).putObj _ hi (by omega) hl rfl) ((heap_putObj_ne _ _ _ _ (by omega)).trans hk)⟩

/-- A function that holds a range over a function: its contract from its body. -/
theorem calls_of_marks {P : Program} {f : FuncId} {fn : Func} {c : Code} {args : Array Value} {w : World} {R : Ending → World → Prop} (hf : P.funcs[f]? = some fn) (hb : fn.body = some c)
    (h : c.wp P (bodyPostM Fence.wide 1 P fn R) { tmps := args ++ Array.replicate (fn.ntmps - args.size) undef, defers := [] } w) : Calls P f args w R :=
  callsIn_wide.1 (callsIn_of_wp_marks (n := 1) hf hb trivial (wpIn_wide.2 h) rfl)

theorem keeps_drewN {W W' : World} {n B : Nat} (h : KeepsOthers (W.drewN n) W') : KeepsFrom B W W' := ⟨h.size, fun k o _ hk ho => h.same k o hk ho⟩

/-- No 'defer' statement among the operations. -/
def noDefer : List Oper → Bool
  | [] => true
  | o :: r => (match o.op with | .defer _ => false | _ => true) && noDefer r

theorem noDefer_at : ∀ {l : List Oper} {i : Nat} {o : Oper}, noDefer l = true → l[i]? = some o → ∀ c, o.op ≠ .defer c
  | [], _, _, _, h => by simp at h
  | a :: r, 0, o, hn, h => by
    simp at h
    subst h
    simp only [noDefer, Bool.and_eq_true] at hn
    intro c hc
    rw [hc] at hn
    exact absurd hn.1 (by simp)
  | a :: r, i + 1, o, hn, h => by
    simp only [noDefer, Bool.and_eq_true] at hn
    exact noDefer_at hn.2 (by simpa using h)

theorem wpOpsIn_inRound {F : Fence} {n : Nat} {P : Program} {ll : List Oper} {Q : Exit → Act → World → Prop} {l : Nat} (hnd : noDefer ll = true) :
    ∀ (is : List Nat) (a : Act) (w : World), wpOpsIn F n P ll.toArray Q is a w → wpOpsIn (F.inRound l) n P ll.toArray Q is a w
  | [], _, _, h => h
  | i :: rest, a, w, h => by
    have ih := wpOpsIn_inRound (l := l) (F := F) (n := n) (P := P) (Q := Q) hnd rest
    unfold wpOpsIn at h ⊢
    cases ho : ll.toArray[i]? with
    | none =>
      rw [ho] at h
      exact ih _ _ h
    | some o =>
      rw [ho] at h
      have hno := noDefer_at hnd (by simpa using ho)
      simp only at h ⊢
      by_cases hw : Region.wanted o (yielded ll.toArray a.tmps) = true
      · rw [if_pos hw] at h ⊢
        have h1 := Oper.wpIn_mono (K' := wpOpsIn (F.inRound l) n P ll.toArray Q rest) ih h
        unfold Oper.wpIn at h1 ⊢
        rw [Oper.semAt_eq _ _ _ hno] at h1 ⊢
        exact h1
      · rw [if_neg hw] at h ⊢
        exact ⟨h.1, ih _ _ h.2⟩

/-- A region of a round that draws its order, and only reads: one walk, in the text's order. -/
theorem wpIn_region_quiet_round {P : Program} {id l : Nat} {Q : Exit → Act → World → Prop} {a : Act} {w : World} {ll : List Oper} (hm : P.follows .mixedOrders = true) (hB : Region.lexB .any ll.toArray = true) (hnd : noDefer ll = true)
    (h : wpQuietIn Fence.wide 0 P ll.toArray (fun w' => ∃ n, w' = w.drewN n) (fun a' => ∀ w', (∃ n, w' = w.drewN n) → Q .normal a' w') ll a) : (Code.region id ll.toArray true).wpIn (Fence.wide.inRound l) 0 P Q a w := by
  simp only [Region.lexB, Bool.and_eq_true] at hB
  refine wpIn_region_draw fun t => wpOpsIn_inRound hnd _ _ _ ?_
  simp only [Region.schedule, hm, Bool.true_or, if_true]
  refine wpAnyIn_sound _ t _ a _ (wpAnyIn_of_quiet (C := fun w' => ∃ n, w' = w.drewN n) (Q := fun a' => ∀ w', (∃ n, w' = w.drewN n) → Q .normal a' w') rfl (fun _ w' hw' h => h w' hw') _ _ _ _ ⟨1, rfl⟩ ?_)
  have := wpAnyQIn_lex (F := Fence.wide) (n := 0) (P := P) (C := fun w' => ∃ n, w' = w.drewN n) (md := .any) hB.1 ll 0 (Array.replicate ll.toArray.size false) a (by simp) (by simpa using hB.2) h
  simpa using this

end Go.Sb
