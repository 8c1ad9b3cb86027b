/- Every mixed pixel lies between the pixel and the ink, and comes nearer to the ink the more is laid. -/
import Derived.Test.YtplnaannfnhhgaaBlend
namespace Go.Proofs.Ytplnaannfnhhgaa.Pure
open Go.RowKit Go.Proofs.Ytplnaannfnhhgaa.R Go.Proofs.YtplnaannfnhhgaaW.PrintWords Go.Proofs.YtplnaannfnhhgaaW.PrintLast
theorem j1_ (k : Nat) (u i a m : Int) (hu : 0 ≤ u ∧ u ≤ 255) (hi : 0 ≤ i ∧ i ≤ 255) (ha : 0 ≤ a ∧ a ≤ 255) (hm : m = mixOf u i a) : seriflaw22_BlendMixes.j1 (k + 1) u i a m false = some true := by
  rw [seriflaw22_BlendMixes.j1]
  rw [if_neg (by decide)]
  by_cases h : a = 255
  · rw [if_pos h]
  · rw [if_neg h, Int.emod_eq_of_lt (by omega) (by omega), blend_mix hu hi (by omega), Option.bind_some, hm]
    rcases Int.le_total u i with hh | hh
    · have := mixOf_next_up (a := a) hh
      rw [if_pos hh, if_pos this]
    · have := mixOf_next_dn (a := a) hh
      by_cases h2 : u ≤ i
      · have := mixOf_next_up (a := a) h2
        rw [if_pos h2, if_pos this]
      · rw [if_neg h2, if_pos hh, decide_eq_true this]
theorem BlendMixes : seriflaw22_BlendMixes.Pure := by
  intro u i a hu hi ha
  replace hu := byte_wf hu
  replace hi := byte_wf hi
  replace ha := byte_wf ha
  refine ⟨2, ?_⟩
  unfold seriflaw22_BlendMixes.f
  rw [alive, Option.bind_some, if_pos rfl, blend_mix hu hi ha, Option.bind_some, ref_mix hu hi ha, Option.bind_some, if_pos rfl, blend_mix hu hi (by decide), Option.bind_some, mixOf_0, if_pos rfl, blend_mix hu hi (by decide), Option.bind_some, mixOf_255]
  have e : (i != i) = false := by simp
  rw [e]
  rw [show (2 : Nat) = 1 + 1 from rfl, seriflaw22_BlendMixes.j0]
  rw [if_neg (by decide)]
  have J := j1_ 0 u i a _ hu hi ha rfl
  rcases Int.le_total u i with hh | hh
  · have := mixOf_up hu hi ha hh
    rw [if_pos hh, if_neg (by omega), if_neg (by omega)]
    by_cases h2 : u ≥ i
    · have h3 := mixOf_dn hu hi ha h2
      rw [if_pos h2, if_neg (by omega), decide_eq_false (by omega)]
      exact J
    · rw [if_neg h2]
      exact J
  · have := mixOf_dn hu hi ha hh
    by_cases h2 : u ≤ i
    · have h3 := mixOf_up hu hi ha h2
      rw [if_pos h2, if_neg (by omega), if_neg (by omega), if_pos hh, if_neg (by omega), decide_eq_false (by omega)]
      exact J
    · rw [if_neg h2, if_pos hh, if_neg (by omega), decide_eq_false (by omega)]
      exact J
end Go.Proofs.Ytplnaannfnhhgaa.Pure
