/- What the printed functions of blend's laws come to: a mixed pixel, a new page, the examples. -/
import Derived.Test.YtplnaannfnhhgabOx1
import Derived.Test.YtplnaannfnhhgabMix0
namespace Go.Proofs.Ytplnaannfnhhgab.O
open Go.RowKit Go.Proofs.YtplnaannfnhhgabW.PrintWords Go.Proofs.YtplnaannfnhhgabW.PrintLast Go.Proofs.YtplnaannfnhhgabW.PrintMore Go.Proofs.Ytplnaannfnhhgab.F
set_option linter.unusedVariables false
set_option linter.unusedSimpArgs false

theorem blend_mix {u i a : Int} (hu : 0 ≤ u ∧ u ≤ 255) (hi : 0 ≤ i ∧ i ≤ 255) (ha : 0 ≤ a ∧ a ≤ 255) : blend_Mix.f u i a = some (mixOf u i a) := by
  have hb := mixOf_byte hu hi ha
  have p1 := mprod_bound (x := u) (y := 255 - a) (by omega) (by omega)
  have p2 := mprod_bound (x := i) (y := a) (by omega) ha
  have e : u * (255 - a) + i * a + 127 = 255 * u + (i - u) * a + 127 := by rw [Int.mul_sub, Int.sub_mul]; omega
  unfold blend_Mix.f
  rw [w64 (x := u) (by omega) (by omega), w64 (x := a) (by omega) (by omega), w64 (x := 255 - a) (by omega) (by omega), w64 (x := u * (255 - a)) (by omega) (by omega), w64 (x := i) (by omega) (by omega), w64 (x := i * a) (by omega) (by omega), w64 (x := u * (255 - a) + i * a) (by omega) (by omega), w64 (x := u * (255 - a) + i * a + 127) (by omega) (by omega), e]
  have n0 : 0 ≤ 255 * u + (i - u) * a + 127 := by unfold mixOf at hb; omega
  rw [Int.tdiv_eq_ediv_of_nonneg n0]
  unfold mixOf at *
  rw [w64 (by omega) (by omega)]
  congr 1
  omega
theorem repeat_f (b n : Int) (h0 : 1 ≤ n) (h1 : n ≤ 1048576) : bytes_Repeat.f [b] n = some (List.replicate n.toNat b) := by
  unfold bytes_Repeat.f
  rw [if_pos ⟨rfl, h0, h1⟩]
  rfl
theorem side_f (n : Int) : blend_side.f n = some (decide (1 ≤ n ∧ n ≤ 1024)) := by
  unfold blend_side.f
  by_cases h : n ≥ 1
  · rw [if_pos h]
    have h' : (1 ≤ n) := h
    simp [h']
  · rw [if_neg h]
    have h' : ¬ (1 ≤ n) := h
    simp [h']
theorem new_f (w h b : Int) : blend_New.f w h b = if (1 ≤ w ∧ w ≤ 1024) ∧ (1 ≤ h ∧ h ≤ 1024) then some (w, h, List.replicate (w * h).toNat b, 0) else some (0, 0, [], 225) := by
  unfold blend_New.f
  simp only [side_f, Option.bind_some]
  by_cases hw : 1 ≤ w ∧ w ≤ 1024
  · by_cases hh : 1 ≤ h ∧ h ≤ 1024
    · have h1 : 1 ≤ w * h := by
        have := Int.mul_le_mul hw.1 hh.1 (by omega) (by omega)
        omega
      have h2 : w * h ≤ 1048576 := by
        have := Int.mul_le_mul hw.2 hh.2 (by omega) (by omega)
        omega
      rw [if_pos (by simpa using hw), if_pos (by simpa using hh), if_pos ⟨hw, hh⟩, w64 (by omega) (by omega), repeat_f b _ h1 h2]
      rfl
    · rw [if_pos (by simpa using hw), if_neg (by simpa using hh), if_neg (by simp [hh])]
  · rw [if_neg (by simpa using hw), if_neg (by simp [hw])]
theorem same_f (w h : Int) (l : List Int) : serifref22_Same.f w h l w h l = some true := by
  unfold serifref22_Same.f
  rw [if_pos rfl, if_pos rfl, beq_self_eq_true]
theorem alive : seriflaw22_blendAlive.f = some true := by
  unfold seriflaw22_blendAlive.f
  have h1 : blend_New.f 2 1 9 = some (2, 1, [9, 9], 0) := by rw [new_f]; decide
  have h2 : blend_Mix.f 255 0 128 = some 127 := by rw [blend_mix (by decide) (by decide) (by decide)]; decide
  have h3 : blend_Mix.f 0 255 1 = some 1 := by rw [blend_mix (by decide) (by decide) (by decide)]; decide
  rw [h1, Option.bind_some, if_pos rfl]
  simp only [same_f, Option.bind_some, h2, h3]
  rfl
end Go.Proofs.Ytplnaannfnhhgab.O
