/- The plain functions of some Go functions and the proofs that the Go code comes to their answers: written by a program out of the translation. -/
import Derived.Test.YtplnaannfnhhgabZx0
import Derived.Test.YtplnaannfnhhgabUtab
namespace Go.Proofs.Ytplnaannfnhhgab.Z
open Go.RowKit Go.Proofs.YtplnaannfnhhgabW.PrintWords Go.Proofs.YtplnaannfnhhgabW.PrintLast Go.Proofs.YtplnaannfnhhgabW.PrintMore
attribute [local go_sem] max2_int min2_int max_two min_two max_three min_three max_four min_four   -- for this text's walks alone
open Go.Proofs.Ytplnaannfnhhgab.F
set_option linter.unusedVariables false
set_option linter.unusedSimpArgs false

/-! ### serifref12_number: function 40 -/
def serifref12_number.l0 : Nat → Int → Int → Option (Int × Int)
  | 0, _, _ => none
  | k + 1, x0, x4 => if x0 < 1872 then (if 0 ≤ x0 then (if x0 < (tabB.size : Int) then (if (bt tabB x0) = 32 then (some (x4, wrap64 (x0 + 1))) else (serifref12_number.l0 k (wrap64 (x0 + 1)) (wrap64 ((wrap64 (x4 * 10)) + (((bt tabB x0) - 48) % 256))))) else (none)) else (none)) else (some (x4, wrap64 (x0 + 1)))
def serifref12_number.f (k : Nat) (a0 : Int) : Option (Int × Int) := serifref12_number.l0 k a0 0
theorem serifref12_number.mono_l : ∀ k, (∀ y0 y1, LeO (serifref12_number.l0 k y0 y1) (serifref12_number.l0 (k + 1) y0 y1))
  | 0 => fun _ _ r h => by simp [serifref12_number.l0] at h
  | k + 1 => by
    have ih0 := serifref12_number.mono_l k
    · intro y0 y1
      unfold serifref12_number.l0
      repeat' first
      | (with_reducible exact ih0 _ _)
      | (with_reducible exact LeO.refl _)
      | (with_reducible exact LeO.none _)
      | (with_reducible refine LeO.ite ?_ ?_)
      | (with_reducible refine LeO.bind ?_ (fun _ => ?_))
      | exact ih0 _ _
      | exact LeO.none _
      | refine LeO.ite ?_ ?_
      | refine LeO.bind ?_ (fun _ => ?_)
theorem serifref12_number.mono : ∀ a0 k, LeO (serifref12_number.f k a0) (serifref12_number.f (k + 1) a0) := by
  intro a0 k
  have ih0 := serifref12_number.mono_l k
  unfold serifref12_number.f
  repeat' first
      | (with_reducible exact ih0 _ _)
      | (with_reducible exact LeO.refl _)
      | (with_reducible exact LeO.none _)
      | (with_reducible refine LeO.ite ?_ ?_)
      | (with_reducible refine LeO.bind ?_ (fun _ => ?_))
      | exact ih0 _ _
      | exact LeO.none _
      | refine LeO.ite ?_ ?_
      | refine LeO.bind ?_ (fun _ => ?_)
set_option maxHeartbeats 8000000 in
set_option maxRecDepth 100000 in
theorem serifref12_number.calls (k : Nat) (a0 : Int) (r1 : Int) (r2 : Int) (w : World) (h : serifref12_number.f k a0 = some (r1, r2)) :
    Calls Try.prog 40 #[.int .i64 a0] w fun e w' => e = .returned (.tuple #[.int .i64 r1, .int .i64 r2]) ∧ Drawn0 w w' := by
  have H : (serifref12_number.l0 k a0 0) = some (r1, r2) := h
  clear h
  have H' := Aside0.mk H
  clear H
  go_enter Try.func40, Try.ntmps40
  generalize hb_ : ByteArray.mk (List.toArray _) = b_
  obtain rfl : b_ = tabB := hb_.symm.trans (by kernel_rfl)
  clear hb_
  go_wp2
  go_loopg [0, 4] k (fun kq v0 v4 w' => ∃ (x0_1 : Int) (x4_1 : Int), v0 = .int .i64 x0_1 ∧ v4 = .int .i64 x4_1 ∧ Aside0 (serifref12_number.l0 kq x0_1 x4_1 = some (r1, r2)) ∧ Aside0 (kq ≤ k) ∧ Drawn0 w w')
  case atStart => exact ⟨(a0), (0), (by first | rfl | (simp; done) | (simp [*]; done)), (by first | rfl | (simp; done) | (simp [*]; done)), H', ⟨Nat.le_refl _⟩, by repeat (first | exact Drawn0.refl _ | apply Drawn0.step)⟩
  case round =>
    clear H'
    obtain ⟨x0_1, x4_1, rfl, rfl, HA, HK1, ⟨m1, rfl⟩⟩ := hrel
    cases gk with
    | zero => exact absurd HA.out (by simp [serifref12_number.l0])
    | succ k1 =>
      have H := HA.out
      clear HA
      simp only [serifref12_number.l0] at H
      by_cases c2 : x0_1 < 1872
      · rw [if_pos c2] at H
        have c2b0 : decide (x0_1 < 1872) = true := decide_eq_true c2
        clear c2
        by_cases c3 : 0 ≤ x0_1
        · rw [if_pos c3] at H
          have c3b0 : decide (0 ≤ x0_1) = true := decide_eq_true c3
          clear c3
          by_cases c4 : x0_1 < (tabB.size : Int)
          · rw [if_pos c4] at H
            have c4b0 : decide (x0_1 < (tabB.size : Int)) = true := decide_eq_true c4
            clear c4
            by_cases c6 : (bt tabB x0_1) = 32
            · rw [if_pos c6] at H
              have c6b0 : ((bt tabB x0_1) == 32) = true := beq_iff_eq.mpr c6
              have c6b1 : ((bt tabB x0_1) != 32) = false := bne_eq_false_iff_eq.mpr c6
              clear c6
              simp only [Option.some.injEq, Prod.mk.injEq] at H
              obtain ⟨rfl, rfl⟩ := H
              have p5 : 0 ≤ (x0_1 : Int) := of_decide_eq_true (by first | (with_reducible assumption) | assumption)
              have q5 : x0_1 < (tabB.size : Int) := of_decide_eq_true (by first | (with_reducible assumption) | assumption)
              have hx5 := bt_at tabB x0_1
              replace p5 := eq_true p5
              replace q5 := eq_true q5
              go_wp2
              go_ret2
              exact ⟨by first | rfl | (simp; done) | (simp [*]; done), by repeat (first | exact Drawn0.refl _ | apply Drawn0.step)⟩
            · rw [if_neg c6] at H
              have c6b0 : ((bt tabB x0_1) == 32) = false := beq_eq_false_iff_ne.mpr c6
              have c6b1 : ((bt tabB x0_1) != 32) = true := bne_iff_ne.mpr c6
              have H' := Aside0.mk H
              clear H
              have p5 : 0 ≤ (x0_1 : Int) := of_decide_eq_true (by first | (with_reducible assumption) | assumption)
              have q5 : x0_1 < (tabB.size : Int) := of_decide_eq_true (by first | (with_reducible assumption) | assumption)
              have hx5 := bt_at tabB x0_1
              replace p5 := eq_true p5
              replace q5 := eq_true q5
              have p7 : 0 ≤ (x0_1 : Int) := of_decide_eq_true (by first | (with_reducible assumption) | assumption)
              have q7 : x0_1 < (tabB.size : Int) := of_decide_eq_true (by first | (with_reducible assumption) | assumption)
              have hx7 := bt_at tabB x0_1
              replace p7 := eq_true p7
              replace q7 := eq_true q7
              go_wp2
              go_roundg k1
              case measure => have := HK1.out; omega
              case rel => exact ⟨(wrap64 (x0_1 + 1)), (wrap64 ((wrap64 (x4_1 * 10)) + (((bt tabB x0_1) - 48) % 256))), (by first | rfl | (simp; done) | (simp [*]; done)), (by first | rfl | (simp; done) | (simp [*]; done)), H', ⟨by have := HK1.out; omega⟩, by repeat (first | exact Drawn0.refl _ | apply Drawn0.step)⟩
          · rw [if_neg c4] at H
            exact absurd H (by simp)
        · rw [if_neg c3] at H
          exact absurd H (by simp)
      · rw [if_neg c2] at H
        have c2b0 : decide (x0_1 < 1872) = false := decide_eq_false c2
        clear c2
        simp only [Option.some.injEq, Prod.mk.injEq] at H
        obtain ⟨rfl, rfl⟩ := H
        go_wp2
        go_ret2
        exact ⟨by first | rfl | (simp; done) | (simp [*]; done), by repeat (first | exact Drawn0.refl _ | apply Drawn0.step)⟩

end Go.Proofs.Ytplnaannfnhhgab.Z
