/- What ranging over a string gives: the codes from a place on; small words on iterators. -/
import Derived.Test.YtplnaannfnhhgabProg
import Derived.Test.YtplnaannfnhhgabWMore
import Derived.Test.YtplnaannfnhhgabWLast
import Derived.KernelRfl
import Derived.WalkKit
import Derived.Deep.LoopGhost
import Derived.Lib.OthersKept
namespace Go.Proofs.Ytplnaannfnhhgab.F
open Go.RowKit Go.Proofs.YtplnaannfnhhgabW.PrintWords Go.Proofs.YtplnaannfnhhgabW.PrintLast Go.Proofs.YtplnaannfnhhgabW.PrintMore
set_option linter.unusedVariables false
/-- The codes that the bytes from place pos on write, at most so many. -/
def decFrom (s : ByteArray) : Nat → Nat → List Int
  | 0, _ => []
  | fuel + 1, pos => if pos < s.size then ((Utf8.decode s pos).1 : Int) :: decFrom s fuel (pos + (Utf8.decode s pos).2) else []
theorem width_pos (s : ByteArray) (pos : Nat) (h : pos < s.size) : 1 ≤ (Utf8.decode s pos).2 := by
  by_cases ha : (s[pos]'h).toNat < 128
  · rw [decode_ascii s pos h ha]
    exact Nat.le_refl _
  · exact (decode_high s pos h (by omega)).2
theorem decFrom_end (s : ByteArray) (fuel pos : Nat) (h : ¬ pos < s.size) : decFrom s fuel pos = [] := by
  cases fuel with
  | zero => rfl
  | succ f => simp [decFrom, h]
theorem strOfNums_size (l : List Int) : (strOfNums l).size = l.length := by
  show (strOfNums l).data.size = _
  simp [strOfNums]
/-- A row of the call's own while an iterator moves on. -/
theorem R_iterAt {α : Type} {d : Kd α} {e base : Nat} {ok : Nat → Prop} {w : World} {v : Value} {xs : List α} (h : d.R e w base ok v xs) {k : Nat} {s : ByteArray} {pos : Nat} (hk : w.heap[k]? = some (.stringIter s pos)) (pos' : Nat) :
    d.R e (w.iterAt k s pos') base ok v xs := by
  refine Kd.R_mono (Kd.R_move (Kd.R_bound h) (fun j hj => ?_)) (fun _ hj => hj.1)
  obtain ⟨_, _, _, q, _, cells, hc⟩ := hj
  refine Lib.iterAt_other w k j s pos' ?_
  rintro rfl
  rw [hk] at hc
  cases hc
end Go.Proofs.Ytplnaannfnhhgab.F
