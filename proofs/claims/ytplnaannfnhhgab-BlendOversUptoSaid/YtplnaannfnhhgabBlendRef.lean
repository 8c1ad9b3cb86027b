/- The document's answer for blend.Over, pixel by pixel. -/
import Derived.Test.YtplnaannfnhhgabOverFact
import Derived.Test.YtplnaannfnhhgabBlend2
import Derived.Test.YtplnaannfnhhgabEx2
import Derived.Test.YtplnaannfnhhgabEx3
namespace Go.Proofs.Ytplnaannfnhhgab.E
open Go.RowKit Go.Proofs.YtplnaannfnhhgabW.PrintWords Go.Proofs.YtplnaannfnhhgabW.PrintLast Go.Proofs.YtplnaannfnhhgabW.PrintMore Go.Proofs.Ytplnaannfnhhgab.F
set_option linter.unusedVariables false
set_option linter.unusedSimpArgs false

theorem copy_f (a b : Int) (l : List Int) (hl : l.length < 140737488355328) : serifref22_Copy.f a b l = some (a, b, l) := by
  unfold serifref22_Copy.f
  rw [Option.bind_some, if_pos (by simpa using hl)]
  rfl
theorem right_f (W H : Int) (l : List Int) : serifref22_Right.f W H l = some (decide (okP W H l.length)) := by
  unfold serifref22_Right.f
  by_cases h : (1 ≤ W ∧ W ≤ 1024) ∧ (1 ≤ H ∧ H ≤ 1024)
  · have h0 : 0 ≤ W * H := Int.mul_nonneg (by omega) (by omega)
    have h1 := Int.mul_le_mul h.1.2 h.2.2 (by omega) (by omega)
    rw [if_pos (by omega), if_pos (by omega), if_pos (by omega), if_pos (by omega), w64 (by omega) (by omega)]
    congr 1
    by_cases hq : (l.length : Int) = W * H
    · rw [decide_eq_true (show okP W H l.length from ⟨h.1, h.2, hq⟩)]
      exact beq_iff_eq.2 hq
    · rw [decide_eq_false (show ¬ okP W H l.length from fun hh => hq hh.2.2)]
      exact beq_eq_false_iff_ne.2 hq
  · rw [decide_eq_false (show ¬ okP W H l.length from fun hh => h ⟨hh.1, hh.2.1⟩)]
    by_cases c1 : W ≥ 1
    · rw [if_pos c1]
      by_cases c2 : H ≥ 1
      · rw [if_pos c2]
        by_cases c3 : W ≤ 1024
        · rw [if_pos c3, if_neg (by omega)]
        · rw [if_neg c3]
      · rw [if_neg c2]
    · rw [if_neg c1]
theorem mask_ev (a b MW MH : Int) (ml : List Int) (hl : ml.length ≤ 1048576) : Ev (fun k => serifref22_RightMask.f k a b MW MH ml) (decide (okM MW MH ml.length)) := by
  refine ⟨1, fun k hk => ?_⟩
  obtain ⟨k, rfl⟩ : ∃ m, k = m + 1 := ⟨k - 1, by omega⟩
  show serifref22_RightMask.f (k + 1) a b MW MH ml = some (decide (okM MW MH ml.length))
  unfold serifref22_RightMask.f
  by_cases c0 : MW < 0
  · rw [if_pos c0, serifref22_RightMask.j0, if_pos rfl, decide_eq_false (fun hh : okM MW MH ml.length => by have := hh.1; omega)]
  · rw [if_neg c0, serifref22_RightMask.j0]
    by_cases c1 : MH < 0
    · rw [if_pos (decide_eq_true c1), decide_eq_false (fun hh : okM MW MH ml.length => by have := hh.2.1; omega)]
    · rw [if_neg (by simpa using c1)]
      by_cases c2 : MW = 0
      · rw [if_pos c2]
        subst c2
        congr 1
        by_cases hq : (ml.length : Int) = 0
        · rw [decide_eq_true (show okM 0 MH ml.length from ⟨by omega, by omega, by rw [Int.zero_mul]; exact hq⟩)]
          exact beq_iff_eq.2 hq
        · rw [decide_eq_false (show ¬ okM 0 MH ml.length from fun hh => hq (by have := hh.2.2; rw [Int.zero_mul] at this; exact this))]
          exact beq_eq_false_iff_ne.2 hq
      · rw [if_neg c2]
        by_cases c3 : MH = 0
        · rw [if_pos c3]
          subst c3
          congr 1
          by_cases hq : (ml.length : Int) = 0
          · rw [decide_eq_true (show okM MW 0 ml.length from ⟨by omega, by omega, by rw [Int.mul_zero]; exact hq⟩)]
            exact beq_iff_eq.2 hq
          · rw [decide_eq_false (show ¬ okM MW 0 ml.length from fun hh => hq (by have := hh.2.2; rw [Int.mul_zero] at this; exact this))]
            exact beq_eq_false_iff_ne.2 hq
        · rw [if_neg c3]
          have g1 : MW ≤ MW * MH := by
            have := Int.mul_le_mul_of_nonneg_left (show 1 ≤ MH by omega) (show 0 ≤ MW by omega)
            omega
          have g2 : MH ≤ MW * MH := by
            have := Int.mul_le_mul_of_nonneg_right (show 1 ≤ MW by omega) (show 0 ≤ MH by omega)
            omega
          by_cases c4 : MW ≤ (ml.length : Int)
          · rw [if_pos c4]
            by_cases c5 : MH ≤ (ml.length : Int)
            · rw [if_pos c5]
              have h1 := Int.mul_le_mul (show MW ≤ 1048576 by omega) (show MH ≤ 1048576 by omega) (by omega) (by omega)
              rw [w64 (by omega) (by omega)]
              congr 1
              by_cases hq : (ml.length : Int) = MW * MH
              · rw [decide_eq_true (show okM MW MH ml.length from ⟨by omega, by omega, hq⟩)]
                exact beq_iff_eq.2 hq.symm
              · rw [decide_eq_false (show ¬ okM MW MH ml.length from fun hh => hq hh.2.2)]
                exact beq_eq_false_iff_ne.2 (fun hh => hq hh.symm)
            · rw [if_neg c5, decide_eq_false (fun hh : okM MW MH ml.length => by have := hh.2.2; omega)]
          · rw [if_neg c4, decide_eq_false (fun hh : okM MW MH ml.length => by have := hh.2.2; omega)]
theorem from_ev (at_ x d n : Int) (h : 0 ≤ at_ ∧ at_ ≤ 1024) : Ev (fun k => serifref22_from.f k at_ x d n) (fromv at_ x d n) := by
  refine ⟨1, fun k hk => ?_⟩
  obtain ⟨k, rfl⟩ : ∃ m, k = m + 1 := ⟨k - 1, by omega⟩
  have J : ∀ b : Bool, (b = decide (farOff x d)) → serifref22_from.j0 (k + 1) at_ x d n b = some (fromv at_ x d n) := fun b hb => by
    subst hb
    rw [serifref22_from.j0]
    unfold fromv
    by_cases hf : farOff x d
    · rw [if_pos (decide_eq_true hf), if_pos (.inl hf)]
    · rw [if_neg (by simpa using hf)]
      by_cases c1 : wrap64 (x + d) > at_
      · rw [if_pos c1, if_pos (.inr (.inl c1))]
      · rw [if_neg c1]
        by_cases c2 : wrap64 (x + d) < -1099511627776
        · rw [if_pos c2, if_pos (.inr (.inr (.inl c2)))]
        · rw [if_neg c2, w64 (x := at_ - wrap64 (x + d)) (by omega) (by omega)]
          by_cases c3 : at_ - wrap64 (x + d) ≥ n
          · rw [if_pos c3, if_pos (.inr (.inr (.inr c3)))]
          · rw [if_neg c3, if_neg]
            rintro (hh | hh | hh | hh)
            · exact hf hh
            · exact c1 hh
            · exact c2 hh
            · exact c3 hh
  show serifref22_from.f (k + 1) at_ x d n = some (fromv at_ x d n)
  unfold serifref22_from.f
  repeat' split
  all_goals
    apply J
    symm
    first
    | (apply decide_eq_true; unfold farOff; omega)
    | (apply decide_eq_false; unfold farOff; omega)
    | (apply decide_eq_decide.2; unfold farOff; omega)
theorem fromv_lt (at_ x d n : Int) : fromv at_ x d n < 0 ∨ (0 ≤ fromv at_ x d n ∧ fromv at_ x d n < n) := by
  unfold fromv
  split
  · left; decide
  · omega
theorem at_ev (X Y MW MH : Int) (ml : List Int) (dx dy X0 Y0 : Int) (hX : 0 ≤ X0 ∧ X0 ≤ 1024) (hY : 0 ≤ Y0 ∧ Y0 ≤ 1024) (hk : okM MW MH ml.length) (hl : ml.length ≤ 9223372036854775807) :
    Ev (fun k => serifref22_At.f k X Y MW MH ml dx dy X0 Y0) (covOf X Y MW MH ml dx dy X0 Y0) := by
  unfold serifref22_At.f covOf
  refine Ev.bind (from_ev X0 X dx MW hX) (Ev.bind (from_ev Y0 Y dy MH hY) ?_)
  have fx := fromv_lt X0 X dx MW
  have fy := fromv_lt Y0 Y dy MH
  generalize fromv X0 X dx MW = sx at *
  generalize fromv Y0 Y dy MH = sy at *
  by_cases c1 : sx < 0
  · simp only [if_pos c1]
    exact Ev.now _
  · by_cases c2 : sy < 0
    · simp only [if_neg c1, if_pos c2]
      exact Ev.now _
    · have m0 : 0 ≤ sy * MW := Int.mul_nonneg (by omega) (by omega)
      have m1 : sy * MW ≤ (MH - 1) * MW := Int.mul_le_mul_of_nonneg_right (by omega) (by omega)
      have m2 : (MH - 1) * MW = MW * MH - MW := by rw [Int.sub_mul, Int.one_mul, Int.mul_comm]
      have m3 := hk.2.2
      have e1 : wrap64 (sy * MW) = sy * MW := w64 (by omega) (by omega)
      have e2 : wrap64 (sy * MW + sx) = sy * MW + sx := w64 (by omega) (by omega)
      simp only [if_neg c1, if_neg c2, e1, e2]
      rw [if_pos (by omega), if_pos (by omega)]
      exact Ev.now _
theorem w64n {n : Nat} (h : n ≤ 1048576) : wrap64 (n : Int) = (n : Int) := w64 (by omega) (by omega)
theorem wsucc {n : Nat} (h : n ≤ 1024) : wrap64 ((n : Int) + 1) = ((n + 1 : Nat) : Int) := by unfold wrap64; omega
theorem row_mod (y : Nat) {x W : Nat} (h : x < W) : ((y * W + x : Nat) : Int) % (W : Int) = (x : Int) := by
  rw [← Int.natCast_emod, Nat.add_comm, Nat.add_mul_mod_self_right, Nat.mod_eq_of_lt h]
theorem row_div (y : Nat) {x W : Nat} (h : x < W) : ((y * W + x : Nat) : Int) / (W : Int) = (y : Int) := by
  rw [← Int.natCast_ediv, Nat.add_comm, Nat.add_mul_div_right _ _ (by omega), Nat.div_eq_of_lt h, Nat.zero_add]
theorem take_rd (P : List Int) (n : Nat) (h : n < P.length) : P.take n ++ [rd P (n : Int)] = P.take (n + 1) := by rw [rd_nat _ _ h, List.take_append_getElem]
section
variable {Wn Hn : Nat} {X Y MW MH : Int} {ml l : List Int} {dx dy ink : Int} (hW : 1 ≤ Wn ∧ Wn ≤ 1024) (hH : 1 ≤ Hn ∧ Hn ≤ 1024) (hq : l.length = Wn * Hn) (hk : okM MW MH ml.length) (hl : ml.length ≤ 9223372036854775807)
  (hqb : ∀ z ∈ l, 0 ≤ z ∧ z ≤ 255) (hm : ∀ z ∈ ml, 0 ≤ z ∧ z ≤ 255) (hi : 0 ≤ ink ∧ ink ≤ 255)
include hW hH hq hk hl hqb hm hi
theorem ref_l1 {r : Int × Int × List Int × Int} : ∀ (d x0 y0 : Nat), x0 + d = Wn → y0 < Hn →
    Ev (fun k => serifref22_Over.l0 k dx dy ink ((y0 + 1 : Nat) : Int) Wn Hn l X Y MW MH ml Wn Hn ((laid Wn X Y MW MH ml dx dy ink l).take ((y0 + 1) * Wn))) r →
    Ev (fun k => serifref22_Over.l1 k dx dy ink (y0 : Int) (x0 : Int) Wn Hn l X Y MW MH ml Wn Hn ((laid Wn X Y MW MH ml dx dy ink l).take (y0 * Wn + x0))) r
  | 0, x0, y0, hx, hy, hn => by
    have ey : ((y0 + 1 : Nat) : Int) = (y0 : Int) + 1 := by omega
    have en : (y0 + 1) * Wn = y0 * Wn + x0 := by rw [Nat.add_mul, Nat.one_mul]; omega
    rw [ey, en] at hn
    refine Ev.step (fun k => ?_) hn
    rw [serifref22_Over.l1, if_neg (by omega), w64 (x := (y0 : Int) + 1) (by omega) (by omega)]
  | d + 1, x0, y0, hx, hy, hn => by
    have g1 : y0 * Wn ≤ (Hn - 1) * Wn := Nat.mul_le_mul_right _ (by omega)
    have g2 : (Hn - 1) * Wn = Wn * Hn - Wn := by rw [Nat.sub_mul, Nat.one_mul, Nat.mul_comm]
    have g3 : Wn * Hn ≤ 1024 * 1024 := Nat.mul_le_mul hW.2 hH.2
    have g4 : Wn ≤ Wn * Hn := Nat.le_mul_of_pos_right _ (by omega)
    have hlt : y0 * Wn + x0 < l.length := by omega
    have b1 : y0 * Wn ≤ 1048576 := by omega
    have b2 : y0 * Wn + x0 ≤ 1048576 := by omega
    have b3 : x0 ≤ 1024 := by omega
    have hx0 : x0 < Wn := by omega
    have i3 : 0 ≤ (x0 : Int) ∧ (x0 : Int) ≤ 1024 := by omega
    have i4 : 0 ≤ (y0 : Int) ∧ (y0 : Int) ≤ 1024 := by omega
    have hmod : ((y0 * Wn + x0 : Nat) : Int) % (Wn : Int) = (x0 : Int) := row_mod y0 hx0
    have hdiv : ((y0 * Wn + x0 : Nat) : Int) / (Wn : Int) = (y0 : Int) := row_div y0 hx0
    have hat := laid_at Wn X Y MW MH ml dx dy ink l (y0 * Wn + x0) hlt
    rw [hmod, hdiv] at hat
    have htk : (laid Wn X Y MW MH ml dx dy ink l).take (y0 * Wn + x0) ++ [mixOf (rd l ((y0 * Wn + x0 : Nat) : Int)) ink (covOf X Y MW MH ml dx dy x0 y0)] = (laid Wn X Y MW MH ml dx dy ink l).take (y0 * Wn + (x0 + 1)) := by
      rw [← hat]
      exact take_rd _ _ (by rw [laid_length]; exact hlt)
    refine Ev.step (f := fun k => (serifref22_At.f k X Y MW MH ml dx dy x0 y0).bind fun t146 => (serifref22_Mix.f (rd l ((y0 * Wn + x0 : Nat) : Int)) ink t146).bind fun t147 =>
      if ((laid Wn X Y MW MH ml dx dy ink l).take (y0 * Wn + x0)).length < 140737488355328 then serifref22_Over.l1 k dx dy ink (y0 : Int) ((x0 + 1 : Nat) : Int) Wn Hn l X Y MW MH ml Wn Hn ((laid Wn X Y MW MH ml dx dy ink l).take (y0 * Wn + x0) ++ [t147]) else none) (fun k => ?_) ?_
    · have i0 : (x0 : Int) < (Wn : Int) := by omega
      have i1 : (0 : Int) ≤ ((y0 * Wn + x0 : Nat) : Int) := by omega
      have i2 : ((y0 * Wn + x0 : Nat) : Int) < (l.length : Int) := by omega
      rw [serifref22_Over.l1, if_pos i0, ← Int.natCast_mul, w64n b1, ← Int.natCast_add, w64n b2, wsucc b3, if_pos i1, if_pos i2]
    · refine Ev.bind (at_ev X Y MW MH ml dx dy x0 y0 i3 i4 hk hl) ?_
      rw [ref_mix (rd_byte hqb _) hi (covOf_byte hm dx dy x0 y0)]
      have hlen : ((laid Wn X Y MW MH ml dx dy ink l).take (y0 * Wn + x0)).length < 140737488355328 := by rw [List.length_take, laid_length]; omega
      simp only [Option.bind_some, if_pos hlen, htk]
      exact ref_l1 d (x0 + 1) y0 (by omega) hy hn
theorem ref_l0 : ∀ (e y0 : Nat), y0 + e = Hn → Ev (fun k => serifref22_Over.l0 k dx dy ink (y0 : Int) Wn Hn l X Y MW MH ml Wn Hn ((laid Wn X Y MW MH ml dx dy ink l).take (y0 * Wn))) ((Wn : Int), (Hn : Int), laid Wn X Y MW MH ml dx dy ink l, 0)
  | 0, y0, hy => by
    refine Ev.step (f := fun _ => some ((Wn : Int), (Hn : Int), laid Wn X Y MW MH ml dx dy ink l, 0)) (fun k => ?_) (Ev.now _)
    rw [serifref22_Over.l0, if_neg (by omega), List.take_of_length_le (by rw [laid_length, hq, show y0 = Hn by omega, Nat.mul_comm]; exact Nat.le_refl _)]
  | e + 1, y0, hy => by
    have h1 := ref_l1 hW hH hq hk hl hqb hm hi Wn 0 y0 (by omega) (by omega) (ref_l0 e (y0 + 1) (by omega))
    rw [show ((0 : Nat) : Int) = 0 from rfl, Nat.add_zero] at h1
    refine Ev.step (fun k => ?_) h1
    rw [serifref22_Over.l0, if_pos (by omega)]
end
theorem ref_ev (W H : Int) (l : List Int) (X Y MW MH : Int) (ml : List Int) (dx dy ink : Int) (hml : ml.length ≤ 1048576) (hqb : ∀ z ∈ l, 0 ≤ z ∧ z ≤ 255) (hm : ∀ z ∈ ml, 0 ≤ z ∧ z ≤ 255) (hi : 0 ≤ ink ∧ ink ≤ 255) :
    Ev (fun k => serifref22_Over.f k W H l X Y MW MH ml dx dy ink) (overV W H l X Y MW MH ml dx dy ink) := by
  have T : ∀ k, serifref22_Over.j0 (k + 1) dx dy ink true W H l X Y MW MH ml = some (0, 0, [], 225) := fun k => by rw [serifref22_Over.j0, if_pos rfl]
  unfold serifref22_Over.f overV
  rw [right_f]
  simp only [Option.bind_some]
  by_cases hp : okP W H l.length
  · simp only [decide_eq_true hp, if_true]
    by_cases hk : okM MW MH ml.length
    · rw [if_pos ⟨hp, hk⟩]
      refine Ev.bind (mask_ev X Y MW MH ml hml) ?_
      simp only [decide_eq_true hk, Bool.not_true]
      obtain ⟨Wn, rfl⟩ : ∃ n : Nat, W = (n : Int) := ⟨W.toNat, by have := hp.1; omega⟩
      obtain ⟨Hn, rfl⟩ : ∃ n : Nat, H = (n : Int) := ⟨H.toNat, by have := hp.2.1; omega⟩
      have hq : l.length = Wn * Hn := by have := hp.2.2; exact_mod_cast this
      have h0 := ref_l0 (X := X) (Y := Y) (dx := dx) (dy := dy) (by have := hp.1; omega) (by have := hp.2.1; omega) hq hk (by omega) hqb hm hi Hn 0 (by omega)
      rw [show ((0 : Nat) : Int) = 0 from rfl, Nat.zero_mul, List.take_zero] at h0
      refine Ev.step (fun k => ?_) h0
      rw [serifref22_Over.j0, if_neg (by decide)]
    · rw [if_neg (fun hh => hk hh.2)]
      refine Ev.bind (mask_ev X Y MW MH ml hml) ?_
      simp only [decide_eq_false hk, Bool.not_false]
      exact Ev.step T (Ev.now _)
  · rw [if_neg (fun hh => hp hh.1)]
    simp only [decide_eq_false hp, Bool.false_eq_true, if_false]
    exact Ev.step T (Ev.now _)
end Go.Proofs.Ytplnaannfnhhgab.E
