/- The document's Get, of any bytes. -/
import Derived.Test.YtpecbhimnpjkdaaRcRefGetK
namespace Go.Proofs.Ytpecbhimnpjkdaa
open Go.RowKit Go.Sb

set_option maxRecDepth 100000 in
set_option maxHeartbeats 1000000 in
theorem refget_nil (a : Option Addr) (c : Nat) (w : World) : Calls Try.prog 25 #[.slice a 0 c] w (GetPost noGot w) := by
  go_enter Try.func25, Try.ntmps25
  go_wp2_with ((refine store_guard _ _ _ _ rfl ?_); refine wpList_store_agg _ rfl _ _ 29 rfl w.heap.size 29 _ zrec rfl rfl zrec_size (heap_alloc_eq _ _) rfl zrec_one ?_; intro w2 hw2 hf2)
  refine bodyPost_ret (results_cell_tmp_row rfl _ _ w.heap.size 29 zrec (0, 0) _ rfl hw2 Try.underlying29 rfl zrec_size) rfl ?_
  exact get_none rfl (((Fr.refl _ w).alloc _).trans hf2 (fun x hx h => by omega))

set_option maxRecDepth 100000 in
set_option maxHeartbeats 1000000 in
theorem refget_odd (b o n c : Nat) (k : Int) (w : World) (h0 : 0 < n) (hc0 : w.cell? ⟨b, o, none⟩ = some (.int .u8 k)) (hk : k < 1 ∨ 4 < k) : Calls Try.prog 25 #[.slice (some ⟨b, o, none⟩) n c] w (GetPost noGot w) := by
  have hbl := World.block_lt_of_cell? w _ hc0
  have hn0 : ¬ ((n : Int) = 0) := by omega
  have hn1 : ((n : Int) == 0) = false := by simp; omega
  have hn2 : ¬ (n = 0) := by omega
  rcases hk with hk | hk
  · have hd : decide (k < 1) = true := decide_eq_true hk
    go_enter Try.func25, Try.ntmps25
    go_wp2_with ((refine store_guard _ _ _ _ rfl ?_); refine wpList_store_agg _ rfl _ _ 29 rfl w.heap.size 29 _ zrec rfl rfl zrec_size (heap_alloc_eq _ _) rfl zrec_one ?_; intro w2 hw2 hf2)
    refine bodyPost_ret (results_cell_tmp_row rfl _ _ w.heap.size 29 zrec (0, 0) _ rfl hw2 Try.underlying29 rfl zrec_size) rfl ?_
    exact get_none rfl (((Fr.refl _ w).alloc _).trans hf2 (fun x hx h => by omega))
  · have hd : decide (k < 1) = false := decide_eq_false (by omega)
    have hd2 : decide (4 < k) = true := decide_eq_true hk
    go_enter Try.func25, Try.ntmps25
    go_wp2_with ((refine store_guard _ _ _ _ rfl ?_); refine wpList_store_agg _ rfl _ _ 29 rfl w.heap.size 29 _ zrec rfl rfl zrec_size (heap_alloc_eq _ _) rfl zrec_one ?_; intro w2 hw2 hf2)
    refine bodyPost_ret (results_cell_tmp_row rfl _ _ w.heap.size 29 zrec (0, 0) _ rfl hw2 Try.underlying29 rfl zrec_size) rfl ?_
    exact get_none rfl (((Fr.refl _ w).alloc _).trans hf2 (fun x hx h => by omega))

theorem refget_any (v : Value) (xs : List UInt8) (w : World) (hv : RB w v xs) (hbig : xs.length ≤ 140737488360000) : Calls Try.prog 25 #[v] w (GetPost (getG xs) w) := by
  have hv0 := hv
  obtain ⟨a, c, rfl, h1, h2, h3⟩ := hv
  cases xs with
  | nil => exact refget_nil a c w
  | cons z r =>
    rcases h3 with ⟨_, h3⟩ | ⟨b, o, s, rfl, hs, hc⟩
    · subst h3; simp at h1
    · obtain rfl := hs (by simp)
      have hc0 : w.cell? ⟨b, o, none⟩ = some (.int .u8 (z.toNat : Int)) := hc 0 (by simp)
      have hcr : ∀ q (h : q < r.length), w.cell? ⟨b, o + (1 + q), none⟩ = some (byte r[q]) := fun q h => by
        have := hc (1 + q) (by simp; omega)
        rw [this, List.getElem_cons]
        simp
      have hm : r.length ≤ 140737488360000 := by simp at hbig; omega
      by_cases hk : Kind (z.toNat : Int)
      · have hz : z = 1 ∨ z = 2 ∨ z = 3 ∨ z = 4 := by
          rcases hk with h | h | h | h
          · left; apply UInt8.toNat_inj.1; show z.toNat = 1; omega
          · right; left; apply UInt8.toNat_inj.1; show z.toNat = 2; omega
          · right; right; left; apply UInt8.toNat_inj.1; show z.toNat = 3; omega
          · right; right; right; apply UInt8.toNat_inj.1; show z.toNat = 4; omega
        rcases hz with rfl | rfl | rfl | rfl
        · exact refget_1 b o c r w hc0 hcr hv0 hm _ (Lib.hid rfl)
        · exact refget_2 b o c r w hc0 hcr hv0 hm _ (Lib.hid rfl)
        · exact refget_3 b o c r w hc0 hcr hv0 hm _ (Lib.hid rfl)
        · exact refget_4 b o c r w hc0 hcr hv0 hm _ (Lib.hid rfl)
      · have hg : getG (z :: r) = noGot := if_pos hk
        rw [hg]
        refine refget_odd b o _ c _ w (by simp) hc0 ?_
        unfold Kind at hk
        omega

end Go.Proofs.Ytpecbhimnpjkdaa
