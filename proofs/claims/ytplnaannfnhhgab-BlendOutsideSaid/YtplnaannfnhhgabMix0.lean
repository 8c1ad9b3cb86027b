/- A mixed pixel, in plain numbers. -/
import Derived.Test.YtplnaannfnhhgabBase
namespace Go.Proofs.Ytplnaannfnhhgab.F
open Go.RowKit Go.Proofs.YtplnaannfnhhgabW.PrintWords
set_option linter.unusedVariables false

theorem byte_wf {x : Int} (h : (Lit.int .u8 x).wf = true) : 0 ≤ x ∧ x ≤ 255 := by
  have : 0 ≤ x ∧ x ≤ 255 := by simpa [Lit.wf, IntKind.min, IntKind.max, IntKind.signed, IntKind.bits] using h
  exact this
theorem int_wf {x : Int} (h : (Lit.int .i64 x).wf = true) : -9223372036854775808 ≤ x ∧ x ≤ 9223372036854775807 := by
  have : -9223372036854775808 ≤ x ∧ x ≤ 9223372036854775807 := by simpa [Lit.wf, IntKind.min, IntKind.max, IntKind.signed, IntKind.bits] using h
  exact this
theorem w64 {x : Int} (h0 : -9223372036854775808 ≤ x) (h1 : x ≤ 9223372036854775807) : wrap64 x = x := by unfold wrap64; omega
/-- A mixed pixel. -/
def mixOf (u i a : Int) : Int := (255 * u + (i - u) * a + 127) / 255
theorem mul_le' {i u a : Int} (h : u ≤ i) (ha : 0 ≤ a ∧ a ≤ 255) : 0 ≤ (i - u) * a ∧ (i - u) * a ≤ (i - u) * 255 :=
  ⟨Int.mul_nonneg (by omega) ha.1, Int.mul_le_mul_of_nonneg_left ha.2 (by omega)⟩
theorem mul_ge' {i u a : Int} (h : i ≤ u) (ha : 0 ≤ a ∧ a ≤ 255) : (i - u) * a ≤ 0 ∧ (i - u) * 255 ≤ (i - u) * a := by
  have := mul_le' h ha
  have e1 : (i - u) * a = - ((u - i) * a) := by rw [← Int.neg_mul]; congr 1; omega
  rw [e1]
  omega
theorem mixOf_up {u i a : Int} (hu : 0 ≤ u ∧ u ≤ 255) (hi : 0 ≤ i ∧ i ≤ 255) (ha : 0 ≤ a ∧ a ≤ 255) (h : u ≤ i) : u ≤ mixOf u i a ∧ mixOf u i a ≤ i := by
  have := mul_le' h ha
  unfold mixOf
  omega
theorem mixOf_dn {u i a : Int} (hu : 0 ≤ u ∧ u ≤ 255) (hi : 0 ≤ i ∧ i ≤ 255) (ha : 0 ≤ a ∧ a ≤ 255) (h : i ≤ u) : i ≤ mixOf u i a ∧ mixOf u i a ≤ u := by
  have := mul_ge' h ha
  unfold mixOf
  omega
theorem mixOf_byte {u i a : Int} (hu : 0 ≤ u ∧ u ≤ 255) (hi : 0 ≤ i ∧ i ≤ 255) (ha : 0 ≤ a ∧ a ≤ 255) : 0 ≤ mixOf u i a ∧ mixOf u i a ≤ 255 := by
  rcases Int.le_total u i with h | h
  · have := mixOf_up hu hi ha h
    omega
  · have := mixOf_dn hu hi ha h
    omega
theorem mixOf_0 (u i : Int) : mixOf u i 0 = u := by
  unfold mixOf
  rw [Int.mul_zero]
  omega
theorem mixOf_255 (u i : Int) : mixOf u i 255 = i := by
  unfold mixOf
  omega
theorem mixOf_next_up {u i a : Int} (h : u ≤ i) : mixOf u i a ≤ mixOf u i (a + 1) := by
  unfold mixOf
  rw [Int.mul_add, Int.mul_one]
  omega
theorem mixOf_next_dn {u i a : Int} (h : i ≤ u) : mixOf u i (a + 1) ≤ mixOf u i a := by
  unfold mixOf
  rw [Int.mul_add, Int.mul_one]
  omega
theorem mprod_bound {x y : Int} (hx : -255 ≤ x ∧ x ≤ 255) (hy : 0 ≤ y ∧ y ≤ 255) : -65025 ≤ x * y ∧ x * y ≤ 65025 := by
  have h1 : x * y ≤ 255 * y := Int.mul_le_mul_of_nonneg_right hx.2 hy.1
  have h2 : -255 * y ≤ x * y := Int.mul_le_mul_of_nonneg_right hx.1 hy.1
  omega
end Go.Proofs.Ytplnaannfnhhgab.F
