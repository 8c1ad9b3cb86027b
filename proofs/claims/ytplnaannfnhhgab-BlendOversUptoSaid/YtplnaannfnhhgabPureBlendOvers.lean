/- Every mask laid on every page, moved anyhow, gives the document's page, pixel by pixel, or is refused. -/
import Derived.Test.YtplnaannfnhhgabEx4
import Derived.Test.YtplnaannfnhhgabBlendRef
namespace Go.Proofs.Ytplnaannfnhhgab.Pure
open Go.RowKit Go.Proofs.Ytplnaannfnhhgab.E Go.Proofs.Ytplnaannfnhhgab.F Go.Proofs.YtplnaannfnhhgabW.PrintWords Go.Proofs.YtplnaannfnhhgabW.PrintLast
set_option linter.unusedVariables false
theorem xor_l (W H X Y MW MH dx dy ink p0 p1 : Int) (l ml : List Int) (n : Nat) (hn : n < 140737488355328) : ∀ (d i : Nat) (q : List Int), i + d = n → q.length = n →
    Ev (fun k => seriflaw22_BlendOvers.l0 k (n : Int) (i : Int) W H l X Y MW MH ml dx dy ink W H l X Y MW MH ml p0 p1 q) true
  | 0, i, q, hi, hq => by
    refine Ev.step (f := fun _ => some true) (fun k => ?_) (Ev.now _)
    rw [seriflaw22_BlendOvers.l0, if_neg (by omega), same_f, Option.bind_some, if_pos rfl, beq_self_eq_true]
  | d + 1, i, q, hi, hq => by
    have h0 : (i : Int) < (n : Int) := by omega
    have h1 : (0 : Int) ≤ (i : Int) := by omega
    have h2 : (i : Int) < (q.length : Int) := by omega
    have h3 : wrap64 ((i : Int) + 1) = ((i + 1 : Nat) : Int) := by rw [w64 (by omega) (by omega)]; omega
    refine Ev.step (fun k => ?_) (xor_l W H X Y MW MH dx dy ink p0 p1 l ml n hn d (i + 1) (q.set (i : Int).toNat (Go.bits .xor .u8 (rd q i) 255)) (by omega) (by rw [List.length_set]; exact hq))
    rw [seriflaw22_BlendOvers.l0, if_pos h0, if_pos h1, if_pos h2, h3]
theorem BlendOvers (W H X Y MW MH dx dy ink : Int) (l ml : List Int) (hl : l.length ≤ 1048576) (hml : ml.length ≤ 1048576) (hqb : ∀ z ∈ l, 0 ≤ z ∧ z ≤ 255) (hm : ∀ z ∈ ml, 0 ≤ z ∧ z ≤ 255) (hi : 0 ≤ ink ∧ ink ≤ 255) :
    ∃ k, seriflaw22_BlendOvers.f k W H l X Y MW MH ml dx dy ink = some true := by
  refine Ev.rounds (g := fun k => seriflaw22_BlendOvers.f k W H l X Y MW MH ml dx dy ink) ?_
  unfold seriflaw22_BlendOvers.f
  have hy : ([] : List Int).length + ml.length < 140737488355328 := by simp only [List.length_nil]; omega
  simp only [alive, Option.bind_some, if_true, copy_f W H l (show l.length < 140737488355328 by omega), if_pos hy, List.nil_append]
  refine Ev.bind (ref_ev W H l X Y MW MH ml dx dy ink hml hqb hm hi) (Ev.bind (over_ev W H l X Y MW MH ml dx dy ink (by omega) (by omega) hqb hm hi) ?_)
  simp only [if_true, same_f, Option.bind_some, Bool.not_true]
  have hlen : (overV W H l X Y MW MH ml dx dy ink).2.2.1.length < 140737488355328 := by
    unfold overV
    split
    · rw [laid_length]; omega
    · exact (by decide : 0 < 140737488355328)
  generalize overV W H l X Y MW MH ml dx dy ink = R at *
  refine Ev.step (fun k => ?_) (xor_l W H X Y MW MH dx dy ink R.1 R.2.1 l ml R.2.2.1.length hlen R.2.2.1.length 0 R.2.2.1 (by omega) rfl)
  rw [seriflaw22_BlendOvers.j0, if_neg (by decide)]
  rfl
end Go.Proofs.Ytplnaannfnhhgab.Pure
