/- HeapTexts: what is left in the heap, as a list; the order by length. -/
import Derived.Test.YtikimfdijkejpaaHSPush
import Derived.Test.YtikimfdijkejpaaHSPop
import Derived.Test.YtikimfdijkejpaaBools
import Derived.Test.YtikimfdijkejpaaHpShown
namespace Go.Proofs.Ytikimfdijkejpaa
open Go.RowKit Go.Sb Go.Proofs.Ytikimfdijkejpaa.HS

def sLen (s : ByteArray) : Int := (s.size : Int)
def noStS (_ : Nat) (_ : World) : Prop := True
def noSbS (_ : Nat) : Prop := False
def anyS (_ : ByteArray) : Prop := True

set_option maxRecDepth 100000 in
set_option maxHeartbeats 1000000 in
theorem short_spec : BSpec Try.prog 16 #[] thV anyS (bk sLen) noStS noSbS := by
  refine ⟨fun x y c W _ _ _ => ?_, enters_of Try.func16 (by kernel_rfl) rfl, fun _ _ _ _ _ _ _ => trivial⟩
  have hk : bk sLen x y = decide (x.size < y.size) := by
    unfold bk sLen
    simp
  rw [hk]
  show Calls Try.prog 16 #[.string x, .string y] W _
  go_enter Try.func16, Try.ntmps16
  go_wp2_with (fail)
  go_ret
  exact ⟨rfl, Fr.refl _ _, trivial⟩

/-- A text with its ticket. -/
def entT (ss : Nat → ByteArray) (t : Nat) : Int × ByteArray := ((t : Int), ss (t - 1))
def liveT (ss : Nat → ByteArray) (bs : List Bool) (n : Nat) : List (Int × ByteArray) := (live bs 1 n).map (entT ss)

theorem live_out {bs : List Bool} {n t : Nat} (h : t ∈ live bs 1 n) (ht : t < bs.length) : (live bs 1 n).Perm (t :: live (bs.set t true) 1 n) := by
  obtain ⟨us, vs, he⟩ := List.append_of_mem h
  rw [live_set ht, filter_ne he (nodup_live bs 1 n), he]
  exact List.perm_middle

theorem take_live {ss : Nat → ByteArray} {bs : List Bool} {n t q : Nat} {L : List (Int × ByteArray)} (hp : L.Perm (liveT ss bs n)) (hq : L[q]? = some (entT ss t)) (h : t ∈ live bs 1 n) (ht : t < bs.length) : (takeL sLen L q).Perm (liveT ss (bs.set t true) n) := by
  have h1 := takeL_perm (key := sLen) hq
  have h2 := (live_out h ht).map (entT ss)
  exact List.Perm.cons_inv (h1.trans (hp.trans h2))

theorem live_len {bs : List Bool} {n t : Nat} (h : t ∈ live bs 1 n) (ht : t < bs.length) : (live bs 1 n).length = (live (bs.set t true) 1 n).length + 1 := by
  have := (live_out h ht).length_eq
  simpa using this

theorem liveT_mem {ss : Nat → ByteArray} {bs : List Bool} {n : Nat} {p : Int × ByteArray} (h : p ∈ liveT ss bs n) : ∃ t, t ∈ live bs 1 n ∧ p = entT ss t := by
  obtain ⟨t, ht, rfl⟩ := List.mem_map.1 h
  exact ⟨t, ht, rfl⟩

theorem live_no {ss : Nat → ByteArray} {bs : List Bool} {n t : Nat} {L : List (Int × ByteArray)} (hp : L.Perm (liveT ss bs n)) (h : t ∉ live bs 1 n) : ∀ p ∈ L, p.1 ≠ (t : Int) := fun p hm he => by
  obtain ⟨t', ht', rfl⟩ := liveT_mem (hp.mem_iff.1 hm)
  have : t' = t := by
    have : ((t' : Nat) : Int) = (t : Int) := he
    omega
  exact h (this ▸ ht')

theorem live_yes {ss : Nat → ByteArray} {bs : List Bool} {n t : Nat} {L : List (Int × ByteArray)} (hp : L.Perm (liveT ss bs n)) (h : t ∈ live bs 1 n) : ∃ q : Nat, L[q]? = some (entT ss t) :=
  List.getElem?_of_mem (hp.mem_iff.2 (List.mem_map.2 ⟨t, h, rfl⟩))

end Go.Proofs.Ytikimfdijkejpaa
