/- Make and the reference's Make of anything, in one row each. -/
import Derived.Test.YtgobbgklmjnnlaaFrMakeR
import Derived.Test.YtgobbgklmjnnlaaFrTakeR
namespace Go.Proofs.Ytgobbgklmjnnlaa
open Go.RowKit Go.Sb

def errM (file place : Int) (ps : List UInt8) : Int :=
  if ¬ (Placed file ∧ Placed place) then 24 else if ps.length = 0 ∨ 66000 < ps.length then 22 else 0
def outM (file place : Int) (ps : List UInt8) : List UInt8 := if errM file place ps = 0 then frameOf file.toNat place.toNat ps else []

def MakeAns (w : World) (file place : Int) (ps : List UInt8) : Ending → World → Prop := MakePost w (errM file place ps) (outM file place ps)

theorem mans_err {w : World} {file place : Int} {ps : List UInt8} {err : Int} (he : errM file place ps = err) (hn : err ≠ 0) : MakeAns w file place ps = MakePost w err [] := by
  unfold MakeAns outM
  rw [he, if_neg hn]

theorem mans_ok {w : World} {file place : Int} {ps : List UInt8} (he : errM file place ps = 0) : MakeAns w file place ps = MakePost w 0 (frameOf file.toNat place.toNat ps) := by
  unfold MakeAns outM
  rw [he, if_pos rfl]

theorem make_any (file place : Int) (v : Value) (ps : List UInt8) (w : World) (hv : RB w v ps) : Calls Try.prog 18 #[.int .i64 file, .int .i64 place, v] w (MakeAns w file place ps) := by
  by_cases hp : Placed file ∧ Placed place
  · obtain ⟨hf, hpl⟩ := hp
    by_cases hl : ps.length = 0 ∨ 66000 < ps.length
    · have he : errM file place ps = 22 := by unfold errM; rw [if_neg (fun h => h ⟨hf, hpl⟩), if_pos hl]
      rw [mans_err he (by decide)]
      obtain ⟨a, c, rfl, _⟩ := hv
      exact make_long file place a ps.length c w hf hpl hl
    · have he : errM file place ps = 0 := by unfold errM; rw [if_neg (fun h => h ⟨hf, hpl⟩), if_neg hl]
      rw [mans_ok he]
      obtain ⟨f, rfl, hf1⟩ := hf.nat
      obtain ⟨p, rfl, hp1⟩ := hpl.nat
      exact make_ok f p v ps w hv hf1 hp1 (by omega) (by omega)
  · have he : errM file place ps = 24 := by unfold errM; rw [if_pos hp]
    rw [mans_err he (by decide)]
    exact make_arg file place v w hp

theorem maker_any (file place : Int) (v : Value) (ps : List UInt8) (w : World) (hv : RB w v ps) : Calls Try.prog 19 #[.int .i64 file, .int .i64 place, v] w (MakeAns w file place ps) := by
  by_cases hp : Placed file ∧ Placed place
  · obtain ⟨hf, hpl⟩ := hp
    by_cases hl : ps.length = 0 ∨ 66000 < ps.length
    · have he : errM file place ps = 22 := by unfold errM; rw [if_neg (fun h => h ⟨hf, hpl⟩), if_pos hl]
      rw [mans_err he (by decide)]
      obtain ⟨a, c, rfl, _⟩ := hv
      exact make_longR file place a ps.length c w hf hpl hl
    · have he : errM file place ps = 0 := by unfold errM; rw [if_neg (fun h => h ⟨hf, hpl⟩), if_neg hl]
      rw [mans_ok he]
      obtain ⟨f, rfl, hf1⟩ := hf.nat
      obtain ⟨p, rfl, hp1⟩ := hpl.nat
      exact make_okR f p v ps w hv hf1 hp1 (by omega) (by omega)
  · have he : errM file place ps = 24 := by unfold errM; rw [if_pos hp]
    rw [mans_err he (by decide)]
    exact make_argR file place v w hp

end Go.Proofs.Ytgobbgklmjnnlaa
