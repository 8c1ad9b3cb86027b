/- Every new page is the document's, or its refusal. -/
import Derived.Test.YtplnaannfnhhgaaBlend
namespace Go.Proofs.Ytplnaannfnhhgaa.Pure
open Go.RowKit Go.Proofs.Ytplnaannfnhhgaa.R Go.Proofs.YtplnaannfnhhgaaW.PrintWords Go.Proofs.YtplnaannfnhhgaaW.PrintLast
theorem new_l (w h b : Int) (hw : 1 ≤ w ∧ w ≤ 1024) (hh : 1 ≤ h ∧ h ≤ 1024) (hm : 1 ≤ w * h ∧ w * h ≤ 1048576) : ∀ (d i k : Nat) (acc : List Int), i + d = (w * h).toNat → acc = List.replicate i b → d < k →
    serifref22_New.l0 k w h b (i : Int) w h acc = some (w, h, List.replicate (w * h).toNat b, 0)
  | 0, i, k, acc, hi, ha, hk => by
    obtain ⟨k, rfl⟩ : ∃ m, k = m + 1 := ⟨k - 1, by omega⟩
    subst ha
    unfold serifref22_New.l0
    rw [w64 (by omega) (by omega), if_neg (by omega)]
    rw [show i = (w * h).toNat by omega]
  | d + 1, i, k, acc, hi, ha, hk => by
    obtain ⟨k, rfl⟩ : ∃ m, k = m + 1 := ⟨k - 1, by omega⟩
    subst ha
    unfold serifref22_New.l0
    rw [w64 (by omega) (by omega), if_pos (by omega), if_pos (by rw [List.length_replicate]; omega), w64 (x := (i : Int) + 1) (by omega) (by omega)]
    have e : (i : Int) + 1 = ((i + 1 : Nat) : Int) := by omega
    rw [e]
    exact new_l w h b hw hh hm d (i + 1) k _ (by omega) (by rw [List.replicate_succ']) (by omega)
theorem ref_new (w h b : Int) : serifref22_New.f 1048578 w h b = if (1 ≤ w ∧ w ≤ 1024) ∧ (1 ≤ h ∧ h ≤ 1024) then some (w, h, List.replicate (w * h).toNat b, 0) else some (0, 0, [], 225) := by
  have T : ∀ k, serifref22_New.j0 (k + 1) w h b true = some (0, 0, [], 225) := fun k => by
    rw [serifref22_New.j0, if_pos rfl]
  unfold serifref22_New.f
  by_cases c1 : w < 1
  · rw [if_pos c1, if_neg (by omega)]
    exact T _
  · by_cases c2 : h < 1
    · rw [if_neg c1, if_pos c2, if_neg (by omega)]
      exact T _
    · by_cases c3 : w > 1024
      · rw [if_neg c1, if_neg c2, if_pos c3, if_neg (by omega)]
        exact T _
      · by_cases c4 : h > 1024
        · rw [if_neg c1, if_neg c2, if_neg c3, decide_eq_true c4, if_neg (by omega)]
          exact T _
        · rw [if_neg c1, if_neg c2, if_neg c3, decide_eq_false c4, if_pos (by omega)]
          have h1 : 1 ≤ w * h := by
            have := Int.mul_le_mul (show (1 : Int) ≤ w by omega) (show (1 : Int) ≤ h by omega) (by omega) (by omega)
            omega
          have h2 : w * h ≤ 1048576 := by
            have := Int.mul_le_mul (show w ≤ 1024 by omega) (show h ≤ 1024 by omega) (by omega) (by omega)
            omega
          rw [show (1048578 : Nat) = 1048577 + 1 from rfl, serifref22_New.j0, if_neg (by decide)]
          exact new_l w h b (by omega) (by omega) ⟨h1, h2⟩ (w * h).toNat 0 1048577 [] (by omega) rfl (by omega)
theorem BlendPages : seriflaw22_BlendPages.Pure := by
  intro w h b hw hh hb
  refine ⟨1048578, ?_⟩
  unfold seriflaw22_BlendPages.f
  rw [alive, Option.bind_some, if_pos rfl, ref_new, new_f]
  by_cases c : (1 ≤ w ∧ w ≤ 1024) ∧ (1 ≤ h ∧ h ≤ 1024)
  · rw [if_pos c]
    simp only [Option.bind_some, same_f, if_true]
  · rw [if_neg c]
    simp only [Option.bind_some, same_f, if_true]
end Go.Proofs.Ytplnaannfnhhgaa.Pure
