/- The queue's methods at one type of things: what each answers, and what it leaves in memory. -/
import Derived.Test.YtolonoabipnpfaaRows
import Derived.Test.YtolonoabipnpfaaQRep
import Derived.Test.YtolonoabipnpfaaMapOps
import Derived.BigRegion
namespace Go.Proofs.Ytolonoabipnpfaa.QS
open Go.RowKit Go.Sb

set_option maxRecDepth 100000 in
set_option maxHeartbeats 400000 in
theorem lay_nil (F : Nat → Prop) (bq bm : Nat) (g t : Int) (x : ByteArray) (w : World) (h : QRep 83 87 F w bq g [] bm) :
    Calls Try.prog 34 #[.pointer (some ⟨bq,0,none⟩), .int .i64 t, (.string x)] w fun e w' => e = .returned (.tuple #[]) ∧
      QRep 83 87 (ex F w) w' bq g [⟨w.heap.size, t, (.string x)⟩] bm ∧ Fr F w w' := by
  have c0 : w.cell? ⟨bq, 0, none⟩ = some (.pointer none) := cell_is h.head 0 rfl
  have c1 : w.cell? ⟨bq, 1, none⟩ = some (.pointer none) := cell_is h.head 1 rfl
  have c2 : w.cell? ⟨bq, 2, none⟩ = some (.map (some bm)) := cell_is h.head 2 rfl
  have f0 := frozen_of h.head 0
  have f1 := frozen_of h.head 1
  have hq := lt_of_heap h.head
  have hm := h.places.lt
  have hne := h.ne_map
  have HM := Lib.hid h.places
  have H := Lib.hid h
  clear h
  go_enter Try.func34, Try.ntmps34
  go_wp2_with (at_mapUpdate; refine wpList_mapUpdate_new _ rfl _ _ _ 80 rfl 3 81 Try.underlying80 Try.underlying3 bm [] t (.pointer (some ⟨w.heap.size, 0, none⟩)) rfl rfl rfl (by repeat (first | exact HM.out | refine HasMap.alloc ?_ _ | refine HasMap.setCell ?_ _ _ | refine HasMap.drew ?_)) (by simp) ?_; intro o' ho')
  go_end0
  have h := H.out
  have hqm := hne
  refine ⟨rfl, h.joined (l := []) (by decide) t _ g ?_ ?_ ?_ ?_ ?_ (by simp), ?_⟩
  · rw [heap_putObj_ne _ _ _ _ hqm, heap_alloc_lt _ _ _ (by simpa using hq), heap_setCell_eq _ _ (heap_setCell_eq _ _ h.head)]
    simp [hd]
  · exact HasMap.put (by simp; omega) ho'
  · rw [heap_putObj_ne _ _ _ _ (by omega)]
    have := heap_alloc_eq ((w.setCell ⟨bq, 0, none⟩ (.pointer (some ⟨w.heap.size, 0, none⟩))).setCell ⟨bq, 1, none⟩ (.pointer (some ⟨w.heap.size, 0, none⟩))) (.cells #[.int .i64 t, (.string x), .pointer none, .pointer none] 87)
    simpa [lst] using this
  · intro l0 m e
    simp at e
  · intro k hk h1 h2 _
    rw [heap_putObj_ne _ _ _ _ h2, heap_alloc_lt _ _ _ (by simpa using hk), heap_setCell_ne _ _ _ _ h1, heap_setCell_ne _ _ _ _ h1]
  · exact ((((Fr.refl _ _).setCell (.inl h.fq) _).setCell (.inl h.fq) _).alloc _).putObj (.inl h.fm) _

set_option maxRecDepth 100000 in
set_option maxHeartbeats 400000 in
theorem lay_snoc (F : Nat → Prop) (bq bm : Nat) (g t : Int) (x : ByteArray) (w : World) (l l0 : List Nd) (m : Nd) (hl : l = l0 ++ [m]) (h : QRep 83 87 F w bq g l bm) (ht : t ∉ l.map Nd.t) :
    Calls Try.prog 34 #[.pointer (some ⟨bq,0,none⟩), .int .i64 t, (.string x)] w fun e w' => e = .returned (.tuple #[]) ∧
      QRep 83 87 (ex F w) w' bq g (l ++ [⟨w.heap.size, t, (.string x)⟩]) bm ∧ Fr F w w' := by
  have hc := (chain_app l0 [m] none none).1 (hl ▸ h.chain)
  have hmh : w.heap[m.b]? = some (.cells #[.int .i64 m.t, m.v, .pointer (lst none l0), .pointer none] 87 (0, 0)) := hc.2.1
  have c1 : w.cell? ⟨bq, 1, none⟩ = some (.pointer (some ⟨m.b, 0, none⟩)) := by rw [cell_of h.head, hl]; simp [lst_snoc]
  have c2 : w.cell? ⟨bq, 2, none⟩ = some (.map (some bm)) := cell_is h.head 2 rfl
  have d3 : w.cell? ⟨m.b, 3, none⟩ = some (.pointer none) := cell_is hmh 3 rfl
  have f1 := frozen_of h.head 1
  have f3 := frozen_of hmh 3
  have hq := lt_of_heap h.head
  have hml := lt_of_heap hmh
  have hm := h.places.lt
  have hne := h.ne_map
  have hmq : m.b ≠ bq := h.ne_nd (by decide) m (by simp [hl])
  have hmm : m.b ≠ bm := h.nd_map m (by simp [hl])
  have HT := Lib.hid ht
  have HM := Lib.hid h.places
  have H := Lib.hid h
  have HH := Lib.hid hmh
  have HL := Lib.hid hl
  clear h hc ht hmh hl
  go_enter Try.func34, Try.ntmps34
  go_wp2_with (at_mapUpdate; refine wpList_mapUpdate_new _ rfl _ _ _ 80 rfl 3 81 Try.underlying80 Try.underlying3 bm (List.map np l) t (.pointer (some ⟨w.heap.size, 0, none⟩)) rfl rfl rfl (by repeat (first | exact HM.out | refine HasMap.alloc ?_ _ | refine HasMap.setCell ?_ _ _ | refine HasMap.drew ?_)) (by rw [H.out.fst_keys]; exact HT.out) ?_; intro o' ho')
  go_end0
  have h := H.out
  refine ⟨rfl, h.joined (l := l) (by decide) t _ g ?_ ?_ ?_ ?_ ?_ HT.out, ?_⟩
  · rw [heap_putObj_ne _ _ _ _ hne, heap_alloc_lt _ _ _ (by simpa using hq), heap_setCell_eq _ _ ((heap_setCell_ne _ _ _ _ (Ne.symm hmq)).trans h.head)]
    rw [hd_app _ _ (by rw [HL.out]; simp)]
    simp
  · exact HasMap.put (by simp; omega) ho'
  · rw [heap_putObj_ne _ _ _ _ (by omega)]
    have := heap_alloc_eq ((w.setCell ⟨m.b, 3, none⟩ (.pointer (some ⟨w.heap.size, 0, none⟩))).setCell ⟨bq, 1, none⟩ (.pointer (some ⟨w.heap.size, 0, none⟩))) (.cells #[.int .i64 t, (.string x), .pointer (some ⟨m.b, 0, none⟩), .pointer none] 87)
    simpa [lst_snoc, HL.out] using this
  · intro l1 m1 e
    rw [HL.out] at e
    have e1 := List.append_inj_left' e rfl
    have e2 := List.append_inj_right' e rfl
    simp only [List.cons.injEq, and_true] at e2
    subst e1 e2
    rw [heap_putObj_ne _ _ _ _ hmm, heap_alloc_lt _ _ _ (by simpa using hml), heap_setCell_ne _ _ _ _ hmq, heap_setCell_eq _ _ HH.out]
    simp
  · intro k hk h1 h2 h3
    rw [heap_putObj_ne _ _ _ _ h2, heap_alloc_lt _ _ _ (by simpa using hk), heap_setCell_ne _ _ _ _ h1, heap_setCell_ne _ _ _ _ (h3 l0 m HL.out)]
  · exact ((((Fr.refl _ _).setCell (.inl (h.fl m (by simp [HL.out]))) _).setCell (.inl h.fq) _).alloc _).putObj (.inl h.fm) _

theorem lay_any (F : Nat → Prop) (bq bm : Nat) (g t : Int) (x : ByteArray) (w : World) (l : List Nd) (h : QRep 83 87 F w bq g l bm) (ht : t ∉ l.map Nd.t) :
    Calls Try.prog 34 #[.pointer (some ⟨bq,0,none⟩), .int .i64 t, (.string x)] w fun e w' => e = .returned (.tuple #[]) ∧
      QRep 83 87 (ex F w) w' bq g (l ++ [⟨w.heap.size, t, (.string x)⟩]) bm ∧ Fr F w w' := by
  rcases List.eq_nil_or_concat l with rfl | ⟨l0, m, rfl⟩
  · exact lay_nil F bq bm g t x w h
  · exact lay_snoc F bq bm g t x w _ l0 m (List.concat_eq_append ..) h ht


theorem zeroV (w : World) : (zeroValue 81).run Try.prog w = .ok (.pointer none) w := by kernel_rfl

set_option maxRecDepth 100000 in
set_option maxHeartbeats 400000 in
theorem new_any (F : Nat → Prop) (w : World) (hF : ∀ k, w.heap.size ≤ k → F k) :
    Calls Try.prog 8 #[] w fun e w' => e = .returned (.pointer (some ⟨w.heap.size + 1, 0, none⟩)) ∧ QRep 83 87 F w' (w.heap.size + 1) 0 [] w.heap.size ∧ Fr (fun _ => False) w w' := by
  have hmm := @run_makeMap Try.prog
  have HF := Lib.hid hF
  clear hF
  go_enter Try.func8, Try.ntmps8
  go_wp2_with (fail)
  go_ret
  exact ⟨rfl, QRep.made 83 87 F w HF.out, ((Fr.refl _ _).alloc _).alloc _⟩

set_option maxRecDepth 100000 in
set_option maxHeartbeats 400000 in
theorem len_any (F : Nat → Prop) (bq bm : Nat) (g : Int) (w : World) (l : List Nd) (h : QRep 83 87 F w bq g l bm) :
    Calls Try.prog 33 #[.pointer (some ⟨bq,0,none⟩)] w fun e w' => e = .returned (.int .i64 (l.length : Int)) ∧ w = w' := by
  have c2 : w.cell? ⟨bq, 2, none⟩ = some (.map (some bm)) := cell_is h.head 2 rfl
  have HM := Lib.hid h.places
  clear h
  go_enter Try.func33, Try.ntmps33
  go_wp2_with (at_len; refine wpList_len_map _ rfl _ 80 rfl 3 81 Try.underlying80 bm (List.map np l) rfl HM.out ?_)
  go_ret
  exact ⟨by simp, rfl⟩

set_option maxRecDepth 100000 in
set_option maxHeartbeats 400000 in
theorem first_nil (F : Nat → Prop) (bq bm : Nat) (g : Int) (w : World) (h : QRep 83 87 F w bq g [] bm) :
    Calls Try.prog 15 #[.pointer (some ⟨bq,0,none⟩)] w fun e w' => e = .returned (.tuple #[.int .i64 0, .string ⟨#[]⟩, .bool false]) ∧ w = w' := by
  have c0 : w.cell? ⟨bq, 0, none⟩ = some (.pointer none) := cell_is h.head 0 rfl
  clear h
  go_enter Try.func15, Try.ntmps15
  go_wp2_with (fail)
  go_ret3
  exact ⟨rfl, rfl⟩

set_option maxRecDepth 100000 in
set_option maxHeartbeats 400000 in
theorem first_cons (F : Nat → Prop) (bq bm : Nat) (g t : Int) (b : Nat) (x : ByteArray) (w : World) (l : List Nd) (h : QRep 83 87 F w bq g (⟨b, t, (.string x)⟩ :: l) bm) :
    Calls Try.prog 15 #[.pointer (some ⟨bq,0,none⟩)] w fun e w' => e = .returned (.tuple #[.int .i64 t, (.string x), .bool true]) ∧ ∃ n, w' = w.drewN n := by
  have c0 : w.cell? ⟨bq, 0, none⟩ = some (.pointer (some ⟨b, 0, none⟩)) := cell_is h.head 0 rfl
  have d0 : w.cell? ⟨b, 0, none⟩ = some (.int .i64 t) := cell_is h.chain.1 0 rfl
  have d1 : w.cell? ⟨b, 1, none⟩ = some ((.string x)) := cell_is h.chain.1 1 rfl
  clear h
  go_enter Try.func15, Try.ntmps15
  go_wp2_with (fail)
  go_quiet (fail)
  go_wp2_with (fail)
  go_ret3
  exact ⟨rfl, _, rfl⟩

set_option maxRecDepth 100000 in
set_option maxHeartbeats 400000 in
theorem get_none (F : Nat → Prop) (bq bm : Nat) (g t : Int) (w : World) (l : List Nd) (h : QRep 83 87 F w bq g l bm) (ht : t ∉ l.map Nd.t) :
    Calls Try.prog 11 #[.pointer (some ⟨bq,0,none⟩), .int .i64 t] w fun e w' => e = .returned (.tuple #[.string ⟨#[]⟩, .bool false]) ∧ w = w' := by
  have c2 : w.cell? ⟨bq, 2, none⟩ = some (.map (some bm)) := cell_is h.head 2 rfl
  have HM := Lib.hid h.places
  have HT : Hid (t ∉ (l.map np).map Prod.fst) := by rw [h.fst_keys]; exact ht
  clear h ht
  go_enter Try.func11, Try.ntmps11
  go_wp2_with (at_lookup; refine wpList_lookup_none _ rfl _ _ 80 _ rfl 3 81 Try.underlying80 Try.underlying3 (zeroV _) bm (List.map np l) t rfl rfl HM.out HT.out ?_; simp only [↓reduceIte])
  go_ret2
  exact ⟨rfl, rfl⟩

set_option maxRecDepth 100000 in
set_option maxHeartbeats 400000 in
theorem get_some (F : Nat → Prop) (bq bm : Nat) (g t : Int) (b : Nat) (x : ByteArray) (w : World) (l us vs : List Nd) (h : QRep 83 87 F w bq g l bm) (hl : l = us ++ ⟨b, t, (.string x)⟩ :: vs) :
    Calls Try.prog 11 #[.pointer (some ⟨bq,0,none⟩), .int .i64 t] w fun e w' => e = .returned (.tuple #[(.string x), .bool true]) ∧ w = w' := by
  have c2 : w.cell? ⟨bq, 2, none⟩ = some (.map (some bm)) := cell_is h.head 2 rfl
  have hc := (chain_app us (⟨b, t, (.string x)⟩ :: vs) none none).1 (hl ▸ h.chain)
  have d1 : w.cell? ⟨b, 1, none⟩ = some ((.string x)) := cell_is hc.2.1 1 rfl
  have HM : Hid (HasMap w bm (us.map np ++ (t, .pointer (some ⟨b, 0, none⟩)) :: vs.map np)) := by have := h.places; rw [mem_split hl] at this; exact this
  have HT : Hid (t ∉ (us.map np).map Prod.fst) := nodup_ahead hl h.keys
  clear h hl hc
  go_enter Try.func11, Try.ntmps11
  go_wp2_with (at_lookup; refine wpList_lookup_some _ rfl _ _ 80 _ rfl 3 81 Try.underlying80 Try.underlying3 bm (us.map np) (vs.map np) t (.pointer (some ⟨b, 0, none⟩)) rfl rfl HM.out HT.out ?_; simp only [↓reduceIte])
  go_ret2
  exact ⟨rfl, rfl⟩

set_option maxRecDepth 100000 in
set_option maxHeartbeats 400000 in
theorem join_any (F : Nat → Prop) (bq bm : Nat) (g : Int) (x : ByteArray) (w : World) (l : List Nd) (h : QRep 83 87 F w bq g l bm) (hg0 : 0 ≤ g) (hg1 : g < 9223372036854775807) (hle : ∀ n ∈ l, n.t ≤ g) :
    Calls Try.prog 9 #[.pointer (some ⟨bq,0,none⟩), (.string x)] w (JoinPost 83 87 F w bq g l bm ((.string x))) := by
  have c3 : w.cell? ⟨bq, 3, none⟩ = some (.int .i64 g) := cell_is h.head 3 rfl
  have f3 := frozen_of h.head 3
  have hq := lt_of_heap h.head
  have HT : Hid (g + 1 ∉ l.map Nd.t) := by
    intro hin
    obtain ⟨n, hn, he⟩ := List.mem_map.1 hin
    have := hle n hn
    omega
  have h1 : QRep 83 87 F (w.setCell ⟨bq, 3, none⟩ (.int .i64 (g + 1))) bq (g + 1) l bm :=
    { h with
      head := by rw [heap_setCell_eq _ _ h.head]; simp
      places := h.places.setCell _ _
      chain := chain_of l _ _ h.chain (fun n hn => heap_setCell_ne _ _ _ _ (h.ne_nd (by decide) n hn)) }
  have HC := Lib.hid (lay_any F bq bm (g + 1) (g + 1) x _ l h1 HT.out)
  have HF := Lib.hid h.fq
  clear h h1 hle
  go_enter Try.func9, Try.ntmps9
  go_wp2_with (fail)
  refine HC.out.mono ?_
  rintro e w' ⟨rfl, hq', hf⟩
  have c3' : w'.cell? ⟨bq, 3, none⟩ = some (.int .i64 (g + 1)) := cell_is hq'.head 3 rfl
  have HQ := Lib.hid hq'
  have HR := Lib.hid hf
  clear hq' hf
  go_wp2_with (fail)
  go_ret
  refine ⟨rfl, ⟨_, by simp, HQ.out.mono ?_⟩, ((Fr.refl F w).setCell (.inl HF.out) _).trans HR.out (fun _ _ h => h)⟩
  intro k _ hk
  rcases hk with hk | hk
  · exact .inl hk
  · exact .inr (by simpa using hk)


set_option maxRecDepth 100000 in
set_option maxHeartbeats 400000 in
theorem leave_none (F : Nat → Prop) (bq bm : Nat) (g t : Int) (w : World) (l : List Nd) (h : QRep 83 87 F w bq g l bm) (ht : t ∉ l.map Nd.t) :
    Calls Try.prog 12 #[.pointer (some ⟨bq,0,none⟩), .int .i64 t] w fun e w' => e = .returned (.tuple #[.string ⟨#[]⟩, .bool false]) ∧ w = w' := by
  have HC := Lib.hid (get_none F bq bm g t w l h ht)
  clear h ht
  go_enter Try.func12, Try.ntmps12
  go_wp2_with (fail)
  refine HC.out.mono ?_
  rintro e w' ⟨rfl, rfl⟩
  go_wp2_with (fail)
  go_ret2
  exact ⟨rfl, rfl⟩

set_option maxRecDepth 100000 in
set_option maxHeartbeats 400000 in
theorem leave_one (F : Nat → Prop) (bq bm : Nat) (g t : Int) (b : Nat) (x : ByteArray) (w : World) (h : QRep 83 87 F w bq g [⟨b, t, (.string x)⟩] bm) :
    Calls Try.prog 12 #[.pointer (some ⟨bq,0,none⟩), .int .i64 t] w (LeavePost 83 87 F w bq g [] bm ((.string x))) := by
  have HC := Lib.hid (get_some F bq bm g t b x w _ [] [] h rfl)
  have HL := Lib.hid (len_any F bq bm g w _ h)
  have c2 : w.cell? ⟨bq, 2, none⟩ = some (.map (some bm)) := cell_is h.head 2 rfl
  have c0 : w.cell? ⟨bq, 0, none⟩ = some (.pointer (some ⟨b, 0, none⟩)) := cell_is h.head 0 rfl
  have c1 : w.cell? ⟨bq, 1, none⟩ = some (.pointer (some ⟨b, 0, none⟩)) := cell_is h.head 1 rfl
  have f0 := frozen_of h.head 0
  have f1 := frozen_of h.head 1
  have hm := h.places.lt
  have hne := h.ne_map
  have HM := Lib.hid h.places
  have H := Lib.hid h
  clear h
  go_enter Try.func12, Try.ntmps12
  go_wp2_with (fail)
  refine HC.out.mono ?_
  rintro e w' ⟨rfl, rfl⟩
  go_wp2_with (fail)
  refine HL.out.mono ?_
  rintro e w' ⟨rfl, rfl⟩
  go_wp2_with ((with_reducible refine clear_guard _ _ _ rfl ?_); go_loud (refine wpList_clear_map _ rfl _ 80 rfl 3 81 Try.underlying80 bm (List.map np [⟨b, t, (.string x)⟩]) rfl (by repeat (first | exact HM.out | refine HasMap.alloc ?_ _ | refine HasMap.setCell ?_ _ _ | refine HasMap.drew ?_)) ?_); intro o' ho')
  go_ret2
  have h := H.out
  refine ⟨rfl, h.emptied ?_ (HasMap.put (by simpa using hm) ho'), (((Fr.refl _ _).setCell (.inl h.fq) _).setCell (.inl h.fq) _).putObj (.inl h.fm) _⟩
  rw [heap_putObj_ne _ _ _ _ hne, heap_setCell_eq _ _ (heap_setCell_eq _ _ h.head)]
  simp

set_option maxRecDepth 100000 in
set_option maxHeartbeats 1000000 in
theorem leave_head (F : Nat → Prop) (bq bm : Nat) (g t : Int) (b : Nat) (x : ByteArray) (w : World) (l : List Nd) (m : Nd) (v0 : List Nd) (h : QRep 83 87 F w bq g l bm) (hl : l = [] ++ ⟨b, t, (.string x)⟩ :: m :: v0) :
    Calls Try.prog 12 #[.pointer (some ⟨bq,0,none⟩), .int .i64 t] w (LeavePost 83 87 F w bq g (m :: v0) bm ((.string x))) := by
  have HC := Lib.hid (get_some F bq bm g t b x w _ _ _ h hl)
  have HL := Lib.hid (len_any F bq bm g w _ h)
  have hnb := nd_at h hl
  have hnm := nd_at (us := [⟨b, t, (.string x)⟩]) (n := m) (vs := v0) h (by rw [hl]; rfl)
  have c2 : w.cell? ⟨bq, 2, none⟩ = some (.map (some bm)) := cell_is h.head 2 rfl
  have c0 : w.cell? ⟨bq, 0, none⟩ = some (.pointer (some ⟨b, 0, none⟩)) := by rw [cell_of h.head, hl]; rfl
  have f0 := frozen_of h.head 0
  have d2 : w.cell? ⟨b, 2, none⟩ = some (.pointer none) := cell_is hnb 2 rfl
  have d3 : w.cell? ⟨b, 3, none⟩ = some (.pointer (some ⟨m.b, 0, none⟩)) := cell_is hnb 3 rfl
  have e2 : w.cell? ⟨m.b, 2, none⟩ = some (.pointer (some ⟨b, 0, none⟩)) := cell_is hnm 2 rfl
  have f2 := frozen_of hnm 2
  have HB : Hid (b ≠ m.b) := apart_ne h.apart (hl.trans rfl : l = [⟨b, t, (.string x)⟩] ++ (m :: v0)) (a := ⟨b, t, (.string x)⟩) (c := m) (by simp) (by simp)
  have hb1 : b ≠ m.b := HB.out
  have hb2 : b ≠ bq := h.ne_nd (by decide) ⟨b, t, (.string x)⟩ (by simp [hl])
  have hb3 : m.b ≠ bq := h.ne_nd (by decide) m (by simp [hl])
  have hb4 : m.b ≠ bm := h.nd_map m (by simp [hl])
  have hb5 : b ≠ bm := h.nd_map ⟨b, t, (.string x)⟩ (by simp [hl])
  have hlen : (((l.length : Int)) == 1) = false := by rw [hl]; simp; omega
  have hm := h.places.lt
  have hne := h.ne_map
  have HM : Hid (HasMap w bm (([] : List Nd).map np ++ (t, .pointer (some ⟨b, 0, none⟩)) :: (m :: v0).map np)) := by have := h.places; rw [mem_split hl] at this; exact this
  have HT : Hid (t ∉ (([] : List Nd).map np).map Prod.fst) := nodup_ahead hl h.keys
  have H := Lib.hid h
  have HN := Lib.hid hnm
  have HE := Lib.hid hl
  clear h hl hnb hnm
  go_enter Try.func12, Try.ntmps12
  go_wp2_with (fail)
  refine HC.out.mono ?_
  rintro e w' ⟨rfl, rfl⟩
  go_wp2_with (fail)
  refine HL.out.mono ?_
  rintro e w' ⟨rfl, rfl⟩
  go_wp2_with (at_lookup; refine wpList_lookup_some _ rfl _ _ 80 _ rfl 3 81 Try.underlying80 Try.underlying3 bm ([].map np) ((m :: v0).map np) t (.pointer (some ⟨b, 0, none⟩)) rfl rfl HM.out HT.out ?_; simp only)
  go_region
  go_wp2_with (at_delete; refine wpList_delete_old _ rfl _ _ 80 3 rfl 3 81 Try.underlying80 Try.underlying3 bm ([].map np) ((m :: v0).map np) t (.pointer (some ⟨b, 0, none⟩)) rfl rfl (by repeat (first | exact HM.out | refine HasMap.alloc ?_ _ | refine HasMap.setCell ?_ _ _ | refine HasMap.drew ?_)) HT.out ?_; intro o' ho')
  go_ret2
  have h := H.out
  refine ⟨rfl, h.left (us := []) HE.out (by decide) ?_ (HasMap.put (by simpa using hm) ho') ?_ ?_ ?_, ?_⟩
  · simp only [heap_drew, heap_putObj_ne _ _ _ _ hne, heap_setCell_ne _ _ _ _ (show bq ≠ (⟨m.b, 2, none⟩ : Addr).block from hb3.symm), heap_setCell_eq _ _ h.head]
    rw [HE.out]
    simp [hd, lst]
  · intro u0 m1 e
    simp at e
  · intro m1 v1 e
    cases e
    simp only [heap_drew, heap_putObj_ne _ _ _ _ hb4, heap_setCell_eq _ _ ((heap_setCell_ne w ⟨bq, 0, none⟩ (.pointer (some ⟨m.b, 0, none⟩)) m.b hb3).trans HN.out)]
    simp [lst]
  · intro k hk h1 h2 _ h3
    have h4 := h3 m v0 rfl
    simp only [heap_drew, heap_putObj_ne _ _ _ _ h2, heap_setCell_ne _ _ _ _ (show k ≠ (⟨m.b, 2, none⟩ : Addr).block from h4), heap_setCell_ne _ _ _ _ (show k ≠ (⟨bq, 0, none⟩ : Addr).block from h1)]
  · have hF := h.fl m (by rw [HE.out]; simp)
    repeat (first | exact Fr.refl _ _ | refine Fr.drew ?_ | refine Fr.putObj ?_ (.inl h.fm) _ | refine Fr.setCell ?_ (.inl h.fq) _ | refine Fr.setCell ?_ (.inl hF) _)

set_option maxRecDepth 100000 in
set_option maxHeartbeats 1000000 in
theorem leave_last (F : Nat → Prop) (bq bm : Nat) (g t : Int) (b : Nat) (x : ByteArray) (w : World) (l us u0 : List Nd) (m : Nd) (h : QRep 83 87 F w bq g l bm) (hl : l = us ++ [⟨b, t, (.string x)⟩]) (hu : us = u0 ++ [m]) :
    Calls Try.prog 12 #[.pointer (some ⟨bq,0,none⟩), .int .i64 t] w (LeavePost 83 87 F w bq g us bm ((.string x))) := by
  have HC := Lib.hid (get_some F bq bm g t b x w _ _ _ h hl)
  have HL := Lib.hid (len_any F bq bm g w _ h)
  have hnb := nd_at h hl
  have hnm := nd_at (us := u0) (n := m) (vs := [⟨b, t, (.string x)⟩]) h (by rw [hl, hu]; simp)
  have c2 : w.cell? ⟨bq, 2, none⟩ = some (.map (some bm)) := cell_is h.head 2 rfl
  have c1 : w.cell? ⟨bq, 1, none⟩ = some (.pointer (some ⟨b, 0, none⟩)) := by rw [cell_of h.head, hl, lst_snoc]; rfl
  have f1 := frozen_of h.head 1
  have d2 : w.cell? ⟨b, 2, none⟩ = some (.pointer (some ⟨m.b, 0, none⟩)) := by rw [cell_of hnb, hu, lst_snoc]; rfl
  have d3 : w.cell? ⟨b, 3, none⟩ = some (.pointer none) := cell_is hnb 3 rfl
  have e3 : w.cell? ⟨m.b, 3, none⟩ = some (.pointer (some ⟨b, 0, none⟩)) := cell_is hnm 3 rfl
  have f3 := frozen_of hnm 3
  have hb1 : m.b ≠ b := apart_ne h.apart hl (a := m) (c := ⟨b, t, (.string x)⟩) (by simp [hu]) (by simp)
  have hb2 : b ≠ bq := h.ne_nd (by decide) ⟨b, t, (.string x)⟩ (by simp [hl])
  have hb3 : m.b ≠ bq := h.ne_nd (by decide) m (by simp [hl, hu])
  have hb4 : m.b ≠ bm := h.nd_map m (by simp [hl, hu])
  have hb5 : b ≠ bm := h.nd_map ⟨b, t, (.string x)⟩ (by simp [hl])
  have hlen : (((l.length : Int)) == 1) = false := by rw [hl, hu]; simp; omega
  have hm := h.places.lt
  have hne := h.ne_map
  have HM : Hid (HasMap w bm (us.map np ++ (t, .pointer (some ⟨b, 0, none⟩)) :: ([] : List Nd).map np)) := by have := h.places; rw [mem_split hl] at this; exact this
  have HT : Hid (t ∉ (us.map np).map Prod.fst) := nodup_ahead hl h.keys
  have H := Lib.hid h
  have HN := Lib.hid hnm
  have HE := Lib.hid hl
  have HU := Lib.hid hu
  clear h hl hu hnb hnm
  go_enter Try.func12, Try.ntmps12
  go_wp2_with (fail)
  refine HC.out.mono ?_
  rintro e w' ⟨rfl, rfl⟩
  go_wp2_with (fail)
  refine HL.out.mono ?_
  rintro e w' ⟨rfl, rfl⟩
  go_wp2_with (at_lookup; refine wpList_lookup_some _ rfl _ _ 80 _ rfl 3 81 Try.underlying80 Try.underlying3 bm (us.map np) ([].map np) t (.pointer (some ⟨b, 0, none⟩)) rfl rfl HM.out HT.out ?_; simp only)
  go_region
  go_wp2_with (at_delete; refine wpList_delete_old _ rfl _ _ 80 3 rfl 3 81 Try.underlying80 Try.underlying3 bm (us.map np) ([].map np) t (.pointer (some ⟨b, 0, none⟩)) rfl rfl (by repeat (first | exact HM.out | refine HasMap.alloc ?_ _ | refine HasMap.setCell ?_ _ _ | refine HasMap.drew ?_)) HT.out ?_; intro o' ho')
  go_ret2
  have h := H.out
  have hh := h.left (us := us) (vs := []) HE.out (by decide) (W := ((((w.setCell ⟨m.b, 3, none⟩ (.pointer none)).setCell ⟨bq, 1, none⟩ (.pointer (some ⟨m.b, 0, none⟩))).drew).putObj bm o')) ?_ (HasMap.put (by simpa using hm) ho') ?_ ?_ ?_
  · refine ⟨rfl, by simpa using hh, ?_⟩
    have hF := h.fl m (by rw [HE.out, HU.out]; simp)
    repeat (first | exact Fr.refl _ _ | refine Fr.drew ?_ | refine Fr.putObj ?_ (.inl h.fm) _ | refine Fr.setCell ?_ (.inl h.fq) _ | refine Fr.setCell ?_ (.inl hF) _)
  · simp only [heap_drew, heap_putObj_ne _ _ _ _ hne, heap_setCell_eq _ _ ((heap_setCell_ne w ⟨m.b, 3, none⟩ (.pointer none) bq hb3.symm).trans h.head)]
    rw [HE.out, HU.out, hd_app _ _ (by simp)]
    simp [lst_snoc]
  · intro u1 m1 e
    obtain ⟨rfl, rfl⟩ := snoc_inj (HU.out.symm.trans e)
    simp only [heap_drew, heap_putObj_ne _ _ _ _ hb4, heap_setCell_ne _ _ _ _ (show m.b ≠ (⟨bq, 1, none⟩ : Addr).block from hb3), heap_setCell_eq _ _ HN.out]
    simp [hd]
  · intro m1 v1 e
    cases e
  · intro k hk h1 h2 h3 _
    have h4 := h3 u0 m HU.out
    simp only [heap_drew, heap_putObj_ne _ _ _ _ h2, heap_setCell_ne _ _ _ _ (show k ≠ (⟨m.b, 3, none⟩ : Addr).block from h4), heap_setCell_ne _ _ _ _ (show k ≠ (⟨bq, 1, none⟩ : Addr).block from h1)]

set_option maxRecDepth 100000 in
set_option maxHeartbeats 1000000 in
theorem leave_mid (F : Nat → Prop) (bq bm : Nat) (g t : Int) (b : Nat) (x : ByteArray) (w : World) (l us vs u0 v0 : List Nd) (m n : Nd) (h : QRep 83 87 F w bq g l bm) (hl : l = us ++ ⟨b, t, (.string x)⟩ :: vs) (hu : us = u0 ++ [m]) (hv : vs = n :: v0) :
    Calls Try.prog 12 #[.pointer (some ⟨bq,0,none⟩), .int .i64 t] w (LeavePost 83 87 F w bq g (us ++ vs) bm ((.string x))) := by
  have HC := Lib.hid (get_some F bq bm g t b x w _ _ _ h hl)
  have HL := Lib.hid (len_any F bq bm g w _ h)
  have hnb := nd_at h hl
  have hnm := nd_at (us := u0) (n := m) (vs := ⟨b, t, (.string x)⟩ :: vs) h (by rw [hl, hu]; simp)
  have hnn := nd_at (us := us ++ [⟨b, t, (.string x)⟩]) (n := n) (vs := v0) h (by rw [hl, hv]; simp)
  have c2 : w.cell? ⟨bq, 2, none⟩ = some (.map (some bm)) := cell_is h.head 2 rfl
  have d2 : w.cell? ⟨b, 2, none⟩ = some (.pointer (some ⟨m.b, 0, none⟩)) := by rw [cell_of hnb, hu, lst_snoc]; rfl
  have d3 : w.cell? ⟨b, 3, none⟩ = some (.pointer (some ⟨n.b, 0, none⟩)) := by rw [cell_of hnb, hv]; rfl
  have e3 : w.cell? ⟨m.b, 3, none⟩ = some (.pointer (some ⟨b, 0, none⟩)) := cell_is hnm 3 rfl
  have e2 : w.cell? ⟨n.b, 2, none⟩ = some (.pointer (some ⟨b, 0, none⟩)) := by rw [cell_of hnn, lst_snoc]; rfl
  have f3 := frozen_of hnm 3
  have f2 := frozen_of hnn 2
  have hb1 : m.b ≠ b := apart_ne h.apart hl (a := m) (c := ⟨b, t, (.string x)⟩) (by simp [hu]) (by simp)
  have hb0 : m.b ≠ n.b := apart_ne h.apart hl (a := m) (c := n) (by simp [hu]) (by simp [hv])
  have hbn : b ≠ n.b := apart_ne h.apart (hl.trans (by simp) : l = (us ++ [⟨b, t, (.string x)⟩]) ++ vs) (a := ⟨b, t, (.string x)⟩) (c := n) (by simp) (by simp [hv])
  have hb2 : b ≠ bq := h.ne_nd (by decide) ⟨b, t, (.string x)⟩ (by simp [hl])
  have hb3 : m.b ≠ bq := h.ne_nd (by decide) m (by simp [hl, hu])
  have hb4 : m.b ≠ bm := h.nd_map m (by simp [hl, hu])
  have hb5 : b ≠ bm := h.nd_map ⟨b, t, (.string x)⟩ (by simp [hl])
  have hb6 : n.b ≠ bq := h.ne_nd (by decide) n (by simp [hl, hv])
  have hb7 : n.b ≠ bm := h.nd_map n (by simp [hl, hv])
  have hlen : (((l.length : Int)) == 1) = false := by rw [hl, hu]; simp; omega
  have hm := h.places.lt
  have hne := h.ne_map
  have HM : Hid (HasMap w bm (us.map np ++ (t, .pointer (some ⟨b, 0, none⟩)) :: vs.map np)) := by have := h.places; rw [mem_split hl] at this; exact this
  have HT : Hid (t ∉ (us.map np).map Prod.fst) := nodup_ahead hl h.keys
  have H := Lib.hid h
  have HN := Lib.hid hnm
  have HN2 := Lib.hid hnn
  have HE := Lib.hid hl
  have HU := Lib.hid hu
  have HV := Lib.hid hv
  clear h hl hu hv hnb hnm hnn
  go_enter Try.func12, Try.ntmps12
  go_wp2_with (fail)
  refine HC.out.mono ?_
  rintro e w' ⟨rfl, rfl⟩
  go_wp2_with (fail)
  refine HL.out.mono ?_
  rintro e w' ⟨rfl, rfl⟩
  go_wp2_with (at_lookup; refine wpList_lookup_some _ rfl _ _ 80 _ rfl 3 81 Try.underlying80 Try.underlying3 bm (us.map np) (vs.map np) t (.pointer (some ⟨b, 0, none⟩)) rfl rfl HM.out HT.out ?_; simp only)
  go_region
  go_wp2_with (fail)
  go_region
  go_wp2_with (at_delete; refine wpList_delete_old _ rfl _ _ 80 3 rfl 3 81 Try.underlying80 Try.underlying3 bm (us.map np) (vs.map np) t (.pointer (some ⟨b, 0, none⟩)) rfl rfl (by repeat (first | exact HM.out | refine HasMap.alloc ?_ _ | refine HasMap.setCell ?_ _ _ | refine HasMap.drew ?_)) HT.out ?_; intro o' ho')
  go_ret2
  have h := H.out
  have hh := h.left (us := us) (vs := vs) HE.out (by decide) (W := ((((w.setCell ⟨m.b, 3, none⟩ (.pointer (some ⟨n.b, 0, none⟩))).setCell ⟨n.b, 2, none⟩ (.pointer (some ⟨m.b, 0, none⟩))).drew.drew).putObj bm o')) ?_ (HasMap.put (by simpa using hm) ho') ?_ ?_ ?_
  · refine ⟨rfl, by simpa using hh, ?_⟩
    have hF := h.fl m (by rw [HE.out, HU.out]; simp)
    have hG := h.fl n (by rw [HE.out, HV.out]; simp)
    repeat (first | exact Fr.refl _ _ | refine Fr.drew ?_ | refine Fr.putObj ?_ (.inl h.fm) _ | refine Fr.setCell ?_ (.inl hG) _ | refine Fr.setCell ?_ (.inl hF) _)
  · simp only [heap_drew, heap_putObj_ne _ _ _ _ hne, heap_setCell_ne _ _ _ _ (show bq ≠ (⟨m.b, 3, none⟩ : Addr).block from hb3.symm), heap_setCell_ne _ _ _ _ (show bq ≠ (⟨n.b, 2, none⟩ : Addr).block from hb6.symm), h.head]
    rw [HE.out, HU.out, HV.out, hd_app (u0 ++ [m]) (_ :: _ :: _) (by simp), hd_app (u0 ++ [m]) (n :: v0) (by simp), lst_app, lst_app]
    simp [lst]
  · intro u1 m1 e
    obtain ⟨rfl, rfl⟩ := snoc_inj (HU.out.symm.trans e)
    simp only [heap_drew, heap_putObj_ne _ _ _ _ hb4, heap_setCell_ne _ _ _ _ (show m.b ≠ (⟨n.b, 2, none⟩ : Addr).block from hb0), heap_setCell_eq _ _ HN.out]
    rw [HV.out]
    simp [hd]
  · intro m1 v1 e
    rw [HV.out] at e
    cases e
    simp only [heap_drew, heap_putObj_ne _ _ _ _ hb7, heap_setCell_eq _ _ ((heap_setCell_ne w ⟨m.b, 3, none⟩ (.pointer (some ⟨n.b, 0, none⟩)) n.b hb0.symm).trans HN2.out)]
    rw [HU.out, lst_snoc, lst_snoc]
    simp
  · intro k hk h1 h2 h3 h5
    have h4 := h3 u0 m HU.out
    have h6 := h5 n v0 HV.out
    simp only [heap_drew, heap_putObj_ne _ _ _ _ h2, heap_setCell_ne _ _ _ _ (show k ≠ (⟨m.b, 3, none⟩ : Addr).block from h4), heap_setCell_ne _ _ _ _ (show k ≠ (⟨n.b, 2, none⟩ : Addr).block from h6)]

theorem leave_any (F : Nat → Prop) (bq bm : Nat) (g t : Int) (b : Nat) (x : ByteArray) (w : World) (l us vs : List Nd) (h : QRep 83 87 F w bq g l bm) (hl : l = us ++ ⟨b, t, (.string x)⟩ :: vs) :
    Calls Try.prog 12 #[.pointer (some ⟨bq,0,none⟩), .int .i64 t] w (LeavePost 83 87 F w bq g (us ++ vs) bm ((.string x))) := by
  rcases List.eq_nil_or_concat us with e | ⟨u0, m, e⟩
  · subst e
    cases vs with
    | nil =>
      rw [hl] at h
      exact leave_one F bq bm g t b x w h
    | cons m v0 => exact leave_head F bq bm g t b x w l m v0 h hl
  · rw [List.concat_eq_append] at e
    cases vs with
    | nil =>
      rw [List.append_nil]
      exact leave_last F bq bm g t b x w l us u0 m h hl e
    | cons n v0 => exact leave_mid F bq bm g t b x w l us _ u0 v0 m n h hl e rfl

end Go.Proofs.Ytolonoabipnpfaa.QS
