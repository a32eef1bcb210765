/- The heap at one type of things: Pop, Remove. -/
import Derived.Test.YtikimfdijkejpaaHSTake
import Derived.Test.YtikimfdijkejpaaHSGet
namespace Go.Proofs.Ytikimfdijkejpaa.HS
open Go.RowKit Go.Sb

set_option maxRecDepth 100000 in
set_option maxHeartbeats 2000000 in
theorem pop_none {F : Nat → Prop} {bh bm : Nat} {fv lv : Value} {g : Int} {m : List (Int × Value)} {w : World} (h : HRep 94 96 2 F w bh fv g (([] : List (Int × (ByteArray))).map en) lv bm m) :
    Calls Try.prog 21 #[.pointer (some ⟨bh, 0, none⟩)] w fun e w' => e = .returned (.tuple #[.int .i64 0, .string ByteArray.empty, .bool false]) ∧ Fr (fun _ => False) w w' := by
  have hlt := lt_of_heap h.head
  have HT := Lib.hid (top_none h)
  clear h
  go_enter Try.func21, Try.ntmps21
  go_wp2_with (go_at_call 48; refine HT.out.mono ?_; rintro e w1 ⟨rfl, hf⟩; have HF := Lib.hid hf; clear hf)
  go_ret3
  exact ⟨rfl, HF.out⟩

set_option maxRecDepth 100000 in
set_option maxHeartbeats 2000000 in
theorem pop_some {fid : Nat} {caps : Array Value} {okx : ByteArray → Prop} {key : ByteArray → Int} {St : Nat → World → Prop} {Sb : Nat → Prop} (B : BSpec Try.prog fid caps thV okx (bk key) St Sb)
    {F : Nat → Prop} {bh bm : Nat} {lv : Value} {g : Int} {L : List (Int × (ByteArray))} {m : List (Int × Value)} {w : World} {a : Int × (ByteArray)} (h : HRep 94 96 2 F w bh (.func (.func fid) #[] caps) g (L.map en) lv bm m)
    (hi : L[0]? = some a) (hL : L.length ≤ 8796093022208) (hok : ∀ p ∈ L, okx p.2) {c : Nat} (hst : St c w) (hFl : ∀ k, F k → k < w.heap.size) (hSF : ∀ k, Sb k → ¬ F k ∧ k < w.heap.size) :
    Calls Try.prog 21 #[.pointer (some ⟨bh, 0, none⟩)] w fun e w' => e = .returned (.tuple #[.int .i64 a.1, thV a.2, .bool true]) ∧ (∃ lv' m', HRep 94 96 2 F w' bh (.func (.func fid) #[] caps) g ((takeL key L 0).map en) lv' bm m') ∧
      (∃ c', c ≤ c' ∧ c' ≤ c + 6 * Nat.log2 L.length ∧ St c' w') ∧ Fr (fun k => F k ∨ Sb k) w w' := by
  have hlt := lt_of_heap h.head
  have hil := (List.getElem?_eq_some_iff.1 hi).1
  have hf0 : Fr (fun _ => False) w w := Fr.refl (fun _ => False) w
  have HT := Lib.hid (top_some (h.fr hf0 (fun _ _ _ h => h)) hi)
  have H := Lib.hid h
  have HB := Lib.hid B
  have HOK := Lib.hid hok
  have HST := Lib.hid hst
  have HSF := Lib.hid hSF
  have HFL := Lib.hid hFl
  have HF0 := Lib.hid hf0
  clear h B hok hst hSF hi hf0 hFl
  obtain ⟨ta, xa⟩ := a
  dsimp only at HT
  go_enter Try.func21, Try.ntmps21
  go_wp2_with (first
    | (go_at_call 48; refine HT.out.mono ?_; rintro e w1 ⟨rfl, hf⟩; dsimp only [thV]; have HF := Lib.hid (HF0.out.trans hf (fun _ _ h => h)); clear hf)
    | (go_at_call 47; refine (take_any HB.out 0 (H.out.fr HF.out (fun _ _ _ h => h)) rfl hil hL HOK.out (HB.out.stab c w _ _ HST.out HF.out (fun _ _ h => h)) (fun k hk => ⟨(HSF.out k hk).1, Nat.lt_of_lt_of_le (HSF.out k hk).2 HF.out.size⟩)).mono ?_; rintro e w2 ⟨rfl, hr2, hc2, hf2⟩; have HR2 := Lib.hid hr2; have HC2 := Lib.hid hc2; have HF2 := Lib.hid hf2; clear hr2 hc2 hf2))
  go_ret3
  exact ⟨rfl, HR2.out, HC2.out, (HF.out.mono (fun _ _ h => h.elim)).trans HF2.out (fun _ _ h => h)⟩

set_option maxRecDepth 100000 in
set_option maxHeartbeats 2000000 in
theorem remove_none {F : Nat → Prop} {bh bm : Nat} {fv lv : Value} {g : Int} {L : List (Int × (ByteArray))} {m : List (Int × Value)} {w : World} {t : Int} (h : HRep 94 96 2 F w bh fv g (L.map en) lv bm m) (ht : ∀ p ∈ L, p.1 ≠ t) :
    Calls Try.prog 19 #[.pointer (some ⟨bh, 0, none⟩), .int .i64 t] w fun e w' => e = .returned (.tuple #[.string ByteArray.empty, .bool false]) ∧ Fr (fun _ => False) w w' := by
  have hlt := lt_of_heap h.head
  have hf0 : Fr (fun _ => False) w w := Fr.refl (fun _ => False) w
  have HT := Lib.hid (get_none (h.fr hf0 (fun _ _ _ h => h)) ht)
  have HF0 := Lib.hid hf0
  clear h ht hf0
  go_enter Try.func19, Try.ntmps19
  go_wp2_with (go_at_call 46; refine HT.out.mono ?_; rintro e w1 ⟨rfl, hf⟩; have HF := Lib.hid (HF0.out.trans hf (fun _ _ h => h)); clear hf)
  go_ret2
  exact ⟨rfl, HF.out⟩

set_option maxRecDepth 100000 in
set_option maxHeartbeats 2000000 in
theorem remove_some {fid : Nat} {caps : Array Value} {okx : ByteArray → Prop} {key : ByteArray → Int} {St : Nat → World → Prop} {Sb : Nat → Prop} (B : BSpec Try.prog fid caps thV okx (bk key) St Sb)
    {F : Nat → Prop} {bh bm : Nat} {lv : Value} {g : Int} {L : List (Int × (ByteArray))} {m : List (Int × Value)} {w : World} {i : Nat} {a : Int × (ByteArray)} (h : HRep 94 96 2 F w bh (.func (.func fid) #[] caps) g (L.map en) lv bm m)
    (hi : L[i]? = some a) (hL : L.length ≤ 8796093022208) (hok : ∀ p ∈ L, okx p.2) {c : Nat} (hst : St c w) (hFl : ∀ k, F k → k < w.heap.size) (hSF : ∀ k, Sb k → ¬ F k ∧ k < w.heap.size) :
    Calls Try.prog 19 #[.pointer (some ⟨bh, 0, none⟩), .int .i64 a.1] w fun e w' => e = .returned (.tuple #[thV a.2, .bool true]) ∧ (∃ lv' m', HRep 94 96 2 F w' bh (.func (.func fid) #[] caps) g ((takeL key L i).map en) lv' bm m') ∧
      (∃ c', c ≤ c' ∧ c' ≤ c + 6 * Nat.log2 L.length ∧ St c' w') ∧ Fr (fun k => F k ∨ Sb k) w w' := by
  have hlt := lt_of_heap h.head
  have hil := (List.getElem?_eq_some_iff.1 hi).1
  have hf0 : Fr (fun _ => False) w w := Fr.refl (fun _ => False) w
  have HT := Lib.hid (get_some (h.fr hf0 (fun _ _ _ h => h)) hi)
  have hm : (a.1, Value.int .i64 (i : Int)) ∈ m := h.ok.hit i (en a) (by rw [List.getElem?_map, hi]; rfl)
  obtain ⟨m1, m2, hms, hm1, _⟩ := split_at h.ok.keys hm
  have HMS := Lib.hid hms
  have HM1 := Lib.hid hm1
  have H := Lib.hid h
  have HB := Lib.hid B
  have HOK := Lib.hid hok
  have HST := Lib.hid hst
  have HSF := Lib.hid hSF
  have HFL := Lib.hid hFl
  have HF0 := Lib.hid hf0
  clear h B hok hst hSF hi hf0 hFl hm hms hm1
  obtain ⟨ta, xa⟩ := a
  dsimp only at HT HMS HM1
  go_enter Try.func19, Try.ntmps19
  go_wp2_with (first
    | (go_at_call 46; refine HT.out.mono ?_; rintro e w1 ⟨rfl, hf⟩; dsimp only [thV]; have HF := Lib.hid (HF0.out.trans hf (fun _ _ h => h)); have c2 : w1.cell? ⟨bh, 2, none⟩ = some (.map (some bm)) := cell_is (HF.out.get H.out.head id) 2 rfl; have HMW : Hid (HasMap w1 bm (m1 ++ (ta, .int .i64 (i : Int)) :: m2)) := Lib.hid (HMS.out ▸ (H.out.fr HF.out (fun _ _ _ h => h)).map); clear hf)
    | (at_lookup; refine wpList_lookup_some _ rfl _ _ 82 false rfl 3 3 Try.underlying82 Try.underlying3 bm m1 m2 ta (.int .i64 (i : Int)) rfl rfl HMW.out HM1.out ?_)
    | (go_at_call 47; refine (take_any HB.out i (H.out.fr HF.out (fun _ _ _ h => h)) rfl hil hL HOK.out (HB.out.stab c w _ _ HST.out HF.out (fun _ _ h => h)) (fun k hk => ⟨(HSF.out k hk).1, Nat.lt_of_lt_of_le (HSF.out k hk).2 HF.out.size⟩)).mono ?_; rintro e w2 ⟨rfl, hr2, hc2, hf2⟩; have HR2 := Lib.hid hr2; have HC2 := Lib.hid hc2; have HF2 := Lib.hid hf2; clear hr2 hc2 hf2))
  go_ret2
  exact ⟨rfl, HR2.out, HC2.out, (HF.out.mono (fun _ _ h => h.elim)).trans HF2.out (fun _ _ h => h)⟩

end Go.Proofs.Ytikimfdijkejpaa.HS
