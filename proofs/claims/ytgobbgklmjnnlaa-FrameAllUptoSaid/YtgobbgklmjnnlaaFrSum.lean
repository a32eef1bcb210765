/- 'over', 'Sum' of the frame. -/
import Derived.Test.YtgobbgklmjnnlaaFrTab
namespace Go.Proofs.Ytgobbgklmjnnlaa
open Go.RowKit Go.Sb

theorem over_none (r0 : BitVec 32) (bt c : Nat) (a : Option Addr) (w : World) :
    Calls Try.prog 34 #[.int .u32 (r0.toNat : Int), .pointer (some ⟨bt, 0, none⟩), .slice a 0 c] w fun e w' => e = .returned (.int .u32 (r0.toNat : Int)) ∧ w = w' := by
  go_enter Try.func34, Try.ntmps34
  go_wp2_with (fail)
  refine wp_loop_rounds 1 ?_
  rw [rounds_succ]
  go_wp2_with (fail)
  go_ret
  exact ⟨rfl, rfl⟩

theorem over_any (r0 : BitVec 32) (bt : Nat) (v : Value) (xs : List UInt8) (w : World) (hv : RB w v xs) (ht : w.heap[bt]? = some (.cells tabA 56 (0, 0))) :
    Calls Try.prog 34 #[.int .u32 (r0.toNat : Int), .pointer (some ⟨bt, 0, none⟩), v] w fun e w' => e = .returned (.int .u32 ((overB r0 xs).toNat : Int)) ∧ w = w' := by
  have hl := hv.len
  rcases hv.open' with ⟨a, c, rfl, rfl⟩ | ⟨b, o, c, rfl, _, _, _, hc⟩
  · exact over_none r0 bt c a w
  · exact over_some r0 bt b o c xs w hl hc ht

set_option maxRecDepth 100000 in
set_option maxHeartbeats 1000000 in
theorem sum_any (v : Value) (xs : List UInt8) (w : World) (hv : RB w v xs) :
    Calls Try.prog 14 #[v] w fun e w' => e = .returned (.int .i64 ((crcB xs).toNat : Int)) ∧ Fr (fun _ => False) w w' := by
  have hl := hv.len
  obtain ⟨a, c, rfl, h1, h2, h3⟩ := hv
  have HV : Hid (∀ W, Fr (fun _ => False) w W → RB W (.slice a xs.length c) xs) := fun W hf => by
    refine ⟨a, c, rfl, h1, h2, h3.imp id ?_⟩
    rintro ⟨b, o, s, rfl, hs, h4⟩
    refine ⟨b, o, s, rfl, hs, fun i h => ?_⟩
    have := h4 i h
    rw [World.cell?_of_block (w := w) (hf.block b (World.block_lt_of_cell? w _ this) (fun h => h))]
    exact this
  clear h3
  go_enter Try.func14, Try.ntmps14
  go_wp2_with (fail)
  refine (table_any w).mono ?_
  rintro e w1 ⟨rfl, rfl⟩
  go_wp2_with ((refine store_guard _ _ _ _ rfl ?_); refine wpList_store_agg _ rfl _ _ 56 rfl (w.heap.size + 1) 56 _ tabA rfl rfl (by kernel_rfl) (heap_alloc_at _ _ _ (by simp)) rfl tabA_one ?_; intro w1 hw1 hf1)
  have hf : Fr (fun _ => False) w w1 := (((Fr.refl _ _).alloc _).alloc _).trans hf1 (fun i hi he => absurd (show i = w.heap.size + 1 from he) (by omega))
  have HF := Lib.hid hf
  have HW := Lib.hid hw1
  clear hf hf1 hw1
  have hp : ((BitVec.allOnes 32).toNat : Int) = 4294967295 := by decide
  have hca := over_any (BitVec.allOnes 32) (w.heap.size + 1) _ xs w1 (HV.out w1 HF.out) HW.out
  rw [hp] at hca
  have HCA := Lib.hid hca
  clear hp hca
  go_wp2_with (fail)
  refine HCA.out.mono ?_
  rintro e w2 ⟨rfl, rfl⟩
  generalize hov : overB (BitVec.allOnes 32) xs = r at *
  obtain ⟨n, hn, hnl⟩ : ∃ n : Nat, (~~~ r).toNat = n ∧ n ≤ 4294967295 := ⟨_, rfl, by have := (~~~ r).isLt; omega⟩
  have hnot : bits .xor .u32 IntKind.u32.max (r.toNat : Int) = (n : Int) := by
    rw [← hn]
    exact bits_not32 r
  have HOV : Hid (crcB xs = ~~~ r) := by rw [← hov]; rfl
  have HN := Lib.hid hn
  clear hov hn
  go_wp2_with (fail)
  go_ret
  refine ⟨?_, HF.out⟩
  rw [HOV.out, HN.out]
  show Ending.returned (.int .i64 (wrap64 (n : Int))) = _
  rw [IntWalk.wrap64_in _ ⟨by omega, by omega⟩]

end Go.Proofs.Ytgobbgklmjnnlaa
