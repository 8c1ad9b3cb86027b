/- The plain functions of some Go functions and the proofs that the Go code comes to their answers: written by a program out of the translation. -/
import Derived.Test.YtplnaannfnhhgaaRx0
import Derived.Test.YtplnaannfnhhgaaRx1
import Derived.Test.YtplnaannfnhhgaaClone
import Derived.Test.YtplnaannfnhhgaaRep
namespace Go.Proofs.Ytplnaannfnhhgaa.R
open Go.RowKit Go.Proofs.YtplnaannfnhhgaaW.PrintWords Go.Proofs.YtplnaannfnhhgaaW.PrintLast Go.Proofs.YtplnaannfnhhgaaW.PrintMore
attribute [local go_sem] max2_int min2_int max_two min_two max_three min_three max_four min_four   -- for this text's walks alone
open Go.Proofs.Ytplnaannfnhhgaa.F
set_option linter.unusedVariables false
set_option linter.unusedSimpArgs false

/-! ### seriflaw22_BlendMixes: function 13 -/
mutual
def seriflaw22_BlendMixes.j0 : Nat → Int → Int → Int → Int → Bool → Option (Bool)
  | 0, _, _, _, _, _ => none
  | k + 1, x0, x1, x2, x7, x34 => if x34 = true then (some false) else (if x0 ≤ x1 then (if x7 < x0 then (seriflaw22_BlendMixes.j1 k x0 x1 x2 x7 true) else (if x7 > x1 then (seriflaw22_BlendMixes.j1 k x0 x1 x2 x7 true) else (if x0 ≥ x1 then (if x7 > x0 then (seriflaw22_BlendMixes.j1 k x0 x1 x2 x7 true) else (seriflaw22_BlendMixes.j1 k x0 x1 x2 x7 (decide (x7 < x1)))) else (seriflaw22_BlendMixes.j1 k x0 x1 x2 x7 false)))) else (if x0 ≥ x1 then (if x7 > x0 then (seriflaw22_BlendMixes.j1 k x0 x1 x2 x7 true) else (seriflaw22_BlendMixes.j1 k x0 x1 x2 x7 (decide (x7 < x1)))) else (seriflaw22_BlendMixes.j1 k x0 x1 x2 x7 false)))
def seriflaw22_BlendMixes.j1 : Nat → Int → Int → Int → Int → Bool → Option (Bool)
  | 0, _, _, _, _, _ => none
  | k + 1, x0, x1, x2, x7, x62 => if x62 = true then (some false) else (if x2 = 255 then (some true) else ((blend_Mix.f x0 x1 ((x2 + 1) % 256)).bind fun t151 => (if x0 ≤ x1 then (if t151 ≥ x7 then (some true) else (if x0 ≥ x1 then (some (decide (t151 ≤ x7))) else (some false))) else (if x0 ≥ x1 then (some (decide (t151 ≤ x7))) else (some false)))))
end
def seriflaw22_BlendMixes.f (k : Nat) (a0 : Int) (a1 : Int) (a2 : Int) : Option (Bool) := (seriflaw22_blendAlive.f).bind fun t146 => (if t146 = true then ((blend_Mix.f a0 a1 a2).bind fun t147 => ((serifref22_Mix.f a0 a1 a2).bind fun t148 => (if t147 = t148 then ((blend_Mix.f a0 a1 0).bind fun t149 => (if t149 = a0 then ((blend_Mix.f a0 a1 255).bind fun t150 => (seriflaw22_BlendMixes.j0 k a0 a1 a2 t147 (t150 != a1))) else (seriflaw22_BlendMixes.j0 k a0 a1 a2 t147 true))) else (seriflaw22_BlendMixes.j0 k a0 a1 a2 t147 true)))) else (some false))
theorem seriflaw22_BlendMixes.mono_l : ∀ k, (∀ y0 y1 y2 y3 y4, LeO (seriflaw22_BlendMixes.j0 k y0 y1 y2 y3 y4) (seriflaw22_BlendMixes.j0 (k + 1) y0 y1 y2 y3 y4)) ∧ (∀ y0 y1 y2 y3 y4, LeO (seriflaw22_BlendMixes.j1 k y0 y1 y2 y3 y4) (seriflaw22_BlendMixes.j1 (k + 1) y0 y1 y2 y3 y4))
  | 0 => ⟨fun _ _ _ _ _ r h => by simp [seriflaw22_BlendMixes.j0] at h, fun _ _ _ _ _ r h => by simp [seriflaw22_BlendMixes.j1] at h⟩
  | k + 1 => by
    obtain ⟨ih0, ih1⟩ := seriflaw22_BlendMixes.mono_l k
    refine ⟨?_, ?_⟩
    · intro y0 y1 y2 y3 y4
      unfold seriflaw22_BlendMixes.j0
      repeat' first
      | (with_reducible exact ih0 _ _ _ _ _)
      | (with_reducible exact ih1 _ _ _ _ _)
      | (with_reducible exact LeO.refl _)
      | (with_reducible exact LeO.none _)
      | (with_reducible refine LeO.ite ?_ ?_)
      | (with_reducible refine LeO.bind ?_ (fun _ => ?_))
      | exact ih0 _ _ _ _ _
      | exact ih1 _ _ _ _ _
      | exact LeO.none _
      | refine LeO.ite ?_ ?_
      | refine LeO.bind ?_ (fun _ => ?_)
    · intro y0 y1 y2 y3 y4
      unfold seriflaw22_BlendMixes.j1
      repeat' first
      | (with_reducible exact ih0 _ _ _ _ _)
      | (with_reducible exact ih1 _ _ _ _ _)
      | (with_reducible exact LeO.refl _)
      | (with_reducible exact LeO.none _)
      | (with_reducible refine LeO.ite ?_ ?_)
      | (with_reducible refine LeO.bind ?_ (fun _ => ?_))
      | exact ih0 _ _ _ _ _
      | exact ih1 _ _ _ _ _
      | exact LeO.none _
      | refine LeO.ite ?_ ?_
      | refine LeO.bind ?_ (fun _ => ?_)
theorem seriflaw22_BlendMixes.mono : ∀ a0 a1 a2 k, LeO (seriflaw22_BlendMixes.f k a0 a1 a2) (seriflaw22_BlendMixes.f (k + 1) a0 a1 a2) := by
  intro a0 a1 a2 k
  obtain ⟨ih0, ih1⟩ := seriflaw22_BlendMixes.mono_l k
  unfold seriflaw22_BlendMixes.f
  repeat' first
      | (with_reducible exact ih0 _ _ _ _ _)
      | (with_reducible exact ih1 _ _ _ _ _)
      | (with_reducible exact LeO.refl _)
      | (with_reducible exact LeO.none _)
      | (with_reducible refine LeO.ite ?_ ?_)
      | (with_reducible refine LeO.bind ?_ (fun _ => ?_))
      | exact ih0 _ _ _ _ _
      | exact ih1 _ _ _ _ _
      | exact LeO.none _
      | refine LeO.ite ?_ ?_
      | refine LeO.bind ?_ (fun _ => ?_)
set_option maxHeartbeats 8000000 in
set_option maxRecDepth 100000 in
theorem seriflaw22_BlendMixes.calls (k : Nat) (a0 : Int) (a1 : Int) (a2 : Int) (r : Bool) (w : World) (h : seriflaw22_BlendMixes.f k a0 a1 a2 = some r) :
    Calls Try.prog 13 #[.int .u8 a0, .int .u8 a1, .int .u8 a2] w fun e w' => e = .returned (.bool r) ∧ Below w.heap.size w w' := by
  have HB := Aside0.mk (Below.refl w.heap.size w)
  have H : ((seriflaw22_blendAlive.f).bind fun t146 => (if t146 = true then ((blend_Mix.f a0 a1 a2).bind fun t147 => ((serifref22_Mix.f a0 a1 a2).bind fun t148 => (if t147 = t148 then ((blend_Mix.f a0 a1 0).bind fun t149 => (if t149 = a0 then ((blend_Mix.f a0 a1 255).bind fun t150 => (seriflaw22_BlendMixes.j0 k a0 a1 a2 t147 (t150 != a1))) else (seriflaw22_BlendMixes.j0 k a0 a1 a2 t147 true))) else (seriflaw22_BlendMixes.j0 k a0 a1 a2 t147 true)))) else (some false))) = some r := h
  clear h
  replace H := Option.bind_eq_some_iff.mp H
  obtain ⟨t146, A40, H⟩ := H
  replace H : (if t146 = true then ((blend_Mix.f a0 a1 a2).bind fun t147 => ((serifref22_Mix.f a0 a1 a2).bind fun t148 => (if t147 = t148 then ((blend_Mix.f a0 a1 0).bind fun t149 => (if t149 = a0 then ((blend_Mix.f a0 a1 255).bind fun t150 => (seriflaw22_BlendMixes.j0 k a0 a1 a2 t147 (t150 != a1))) else (seriflaw22_BlendMixes.j0 k a0 a1 a2 t147 true))) else (seriflaw22_BlendMixes.j0 k a0 a1 a2 t147 true)))) else (some false)) = some r := H
  have A4 := Aside0.mk A40
  clear A40
  by_cases c5 : t146 = true
  · subst c5
    have H1 : ((blend_Mix.f a0 a1 a2).bind fun t147 => ((serifref22_Mix.f a0 a1 a2).bind fun t148 => (if t147 = t148 then ((blend_Mix.f a0 a1 0).bind fun t149 => (if t149 = a0 then ((blend_Mix.f a0 a1 255).bind fun t150 => (seriflaw22_BlendMixes.j0 k a0 a1 a2 t147 (t150 != a1))) else (seriflaw22_BlendMixes.j0 k a0 a1 a2 t147 true))) else (seriflaw22_BlendMixes.j0 k a0 a1 a2 t147 true)))) = some r := by rw [if_pos rfl] at H; exact H
    clear H
    have H := H1
    clear H1
    replace H := Option.bind_eq_some_iff.mp H
    obtain ⟨t147, A60, H⟩ := H
    replace H : ((serifref22_Mix.f a0 a1 a2).bind fun t148 => (if t147 = t148 then ((blend_Mix.f a0 a1 0).bind fun t149 => (if t149 = a0 then ((blend_Mix.f a0 a1 255).bind fun t150 => (seriflaw22_BlendMixes.j0 k a0 a1 a2 t147 (t150 != a1))) else (seriflaw22_BlendMixes.j0 k a0 a1 a2 t147 true))) else (seriflaw22_BlendMixes.j0 k a0 a1 a2 t147 true))) = some r := H
    have A6 := Aside0.mk A60
    clear A60
    have HC7 := Aside0.mk H
    clear H
    go_enter Try.func13, Try.ntmps13
    go_upto_region 4 with (first | ((with_reducible refine gate_callee (f := 54) rfl ?_); refine goesL_ (some 9) rfl rfl Try.func54 (by kernel_rfl) rfl #[] rfl (by (try simp only [List.map_toArray, List.map_cons, List.map_nil]); first | done | rfl | (simp only [List.length_drop, List.length_take]; rfl)) ?_; (with_reducible refine (seriflaw22_blendAlive.calls  true _ A4.out).mono ?_); rintro e w8 ⟨rfl, hb⟩; refine ⟨_, rfl, ?_⟩; have n0_ := Aside0.mk (below_step (by repeat (first | (with_reducible first | exact HB.out | apply below_alloc | apply pw_below_drewN | apply below_drew1) | exact HB.out)) hb); clear HB; have HB := n0_; clear n0_; (try clear hb); (try clear hb2); (try clear hk); (try clear hi)) | ((with_reducible refine gate_callee (f := 58) rfl ?_); refine goesL_ (some 14) rfl rfl Try.func58 (by kernel_rfl) rfl #[.int .u8 a0, .int .u8 a1, .int .u8 a2] rfl (by (try simp only [List.map_toArray, List.map_cons, List.map_nil]); first | done | rfl | (simp only [List.length_drop, List.length_take]; rfl)) ?_; (with_reducible refine (blend_Mix.calls a0 a1 a2 t147 _ A6.out).mono ?_); rintro e w' ⟨rfl, ⟨nd, rfl⟩⟩; refine ⟨_, rfl, ?_⟩) | (go_at_call 58; (with_reducible refine (blend_Mix.calls a0 a1 a2 t147 _ A6.out).mono ?_); rintro e w' ⟨rfl, ⟨nd, rfl⟩⟩))
    (try simp only [Act.put, List.setIfInBounds_toArray, List.set_cons_zero, List.set_cons_succ])
    go_cut [34] (fun v34 wc => ∃ (kq : Nat) (x34_6 : Bool), v34 = .bool x34_6 ∧ Aside0 (seriflaw22_BlendMixes.j0 kq a0 a1 a2 t147 x34_6 = some r) ∧ Aside0 (kq ≤ k) ∧ Aside0 (Below w.heap.size w wc))
    case first =>
      have H := HC7.out
      clear HC7
      replace H := Option.bind_eq_some_iff.mp H
      obtain ⟨t148, A90, H⟩ := H
      replace H : (if t147 = t148 then ((blend_Mix.f a0 a1 0).bind fun t149 => (if t149 = a0 then ((blend_Mix.f a0 a1 255).bind fun t150 => (seriflaw22_BlendMixes.j0 k a0 a1 a2 t147 (t150 != a1))) else (seriflaw22_BlendMixes.j0 k a0 a1 a2 t147 true))) else (seriflaw22_BlendMixes.j0 k a0 a1 a2 t147 true)) = some r := H
      have A9 := Aside0.mk A90
      clear A90
      by_cases c10 : t147 = t148
      · rw [if_pos c10] at H
        have c10b0 : (t147 == t148) = true := beq_iff_eq.mpr c10
        have c10b1 : (t147 != t148) = false := bne_eq_false_iff_eq.mpr c10
        clear c10
        (first | rw [c10b0] | (simp only [i64_w, i32_w]; rw [c10b0]) | skip)
        replace H := Option.bind_eq_some_iff.mp H
        obtain ⟨t149, A110, H⟩ := H
        replace H : (if t149 = a0 then ((blend_Mix.f a0 a1 255).bind fun t150 => (seriflaw22_BlendMixes.j0 k a0 a1 a2 t147 (t150 != a1))) else (seriflaw22_BlendMixes.j0 k a0 a1 a2 t147 true)) = some r := H
        have A11 := Aside0.mk A110
        clear A110
        by_cases c12 : t149 = a0
        · rw [if_pos c12] at H
          have c12b0 : (t149 == a0) = true := beq_iff_eq.mpr c12
          have c12b1 : (t149 != a0) = false := bne_eq_false_iff_eq.mpr c12
          clear c12
          replace H := Option.bind_eq_some_iff.mp H
          obtain ⟨t150, A130, H⟩ := H
          replace H : (seriflaw22_BlendMixes.j0 k a0 a1 a2 t147 (t150 != a1)) = some r := H
          have A13 := Aside0.mk A130
          clear A130
          have H' := Aside0.mk H
          clear H
          go_wp2_with (first | ((with_reducible refine gate_callee (f := 59) rfl ?_); refine goesL_ (some 19) rfl rfl Try.func59 (by kernel_rfl) rfl #[.int .u8 a0, .int .u8 a1, .int .u8 a2] rfl (by (try simp only [List.map_toArray, List.map_cons, List.map_nil]); first | done | rfl | (simp only [List.length_drop, List.length_take]; rfl)) ?_; (with_reducible refine (serifref22_Mix.calls a0 a1 a2 t148 _ A9.out).mono ?_); rintro e w' ⟨rfl, ⟨nd, rfl⟩⟩; refine ⟨_, rfl, ?_⟩) | (go_at_call 59; (with_reducible refine (serifref22_Mix.calls a0 a1 a2 t148 _ A9.out).mono ?_); rintro e w' ⟨rfl, ⟨nd, rfl⟩⟩) | (go_at_call 58; (with_reducible refine (blend_Mix.calls a0 a1 0 t149 _ A11.out).mono ?_); rintro e w' ⟨rfl, ⟨nd, rfl⟩⟩) | (go_at_call 58; (with_reducible refine (blend_Mix.calls a0 a1 0 t149 _ A11.out).mono ?_); rintro e w' ⟨rfl, ⟨nd, rfl⟩⟩) | (go_at_call 58; (with_reducible refine (blend_Mix.calls a0 a1 255 t150 _ A13.out).mono ?_); rintro e w' ⟨rfl, ⟨nd, rfl⟩⟩) | (go_at_call 58; (with_reducible refine (blend_Mix.calls a0 a1 255 t150 _ A13.out).mono ?_); rintro e w' ⟨rfl, ⟨nd, rfl⟩⟩))
          go_meet
          case rel => exact ⟨_, ((t150 != a1)), (by first | rfl | (simp; done) | (simp [*]; done)), H', ⟨by first | omega | exact Nat.le_refl _⟩, ⟨by repeat (first | (with_reducible first | exact HB.out | apply below_alloc | apply pw_below_drewN | apply below_drew1) | exact HB.out)⟩⟩
        · rw [if_neg c12] at H
          have c12b0 : (t149 == a0) = false := beq_eq_false_iff_ne.mpr c12
          have c12b1 : (t149 != a0) = true := bne_iff_ne.mpr c12
          have H' := Aside0.mk H
          clear H
          go_wp2_with (first | ((with_reducible refine gate_callee (f := 59) rfl ?_); refine goesL_ (some 19) rfl rfl Try.func59 (by kernel_rfl) rfl #[.int .u8 a0, .int .u8 a1, .int .u8 a2] rfl (by (try simp only [List.map_toArray, List.map_cons, List.map_nil]); first | done | rfl | (simp only [List.length_drop, List.length_take]; rfl)) ?_; (with_reducible refine (serifref22_Mix.calls a0 a1 a2 t148 _ A9.out).mono ?_); rintro e w' ⟨rfl, ⟨nd, rfl⟩⟩; refine ⟨_, rfl, ?_⟩) | (go_at_call 59; (with_reducible refine (serifref22_Mix.calls a0 a1 a2 t148 _ A9.out).mono ?_); rintro e w' ⟨rfl, ⟨nd, rfl⟩⟩) | (go_at_call 58; (with_reducible refine (blend_Mix.calls a0 a1 0 t149 _ A11.out).mono ?_); rintro e w' ⟨rfl, ⟨nd, rfl⟩⟩) | (go_at_call 58; (with_reducible refine (blend_Mix.calls a0 a1 0 t149 _ A11.out).mono ?_); rintro e w' ⟨rfl, ⟨nd, rfl⟩⟩))
          go_meet
          case rel => exact ⟨_, (true), (by first | rfl | (simp; done) | (simp [*]; done)), H', ⟨by first | omega | exact Nat.le_refl _⟩, ⟨by repeat (first | (with_reducible first | exact HB.out | apply below_alloc | apply pw_below_drewN | apply below_drew1) | exact HB.out)⟩⟩
      · rw [if_neg c10] at H
        have c10b0 : (t147 == t148) = false := beq_eq_false_iff_ne.mpr c10
        have c10b1 : (t147 != t148) = true := bne_iff_ne.mpr c10
        (first | rw [c10b0] | (simp only [i64_w, i32_w]; rw [c10b0]) | skip)
        have H' := Aside0.mk H
        clear H
        go_wp2_with (first | ((with_reducible refine gate_callee (f := 59) rfl ?_); refine goesL_ (some 19) rfl rfl Try.func59 (by kernel_rfl) rfl #[.int .u8 a0, .int .u8 a1, .int .u8 a2] rfl (by (try simp only [List.map_toArray, List.map_cons, List.map_nil]); first | done | rfl | (simp only [List.length_drop, List.length_take]; rfl)) ?_; (with_reducible refine (serifref22_Mix.calls a0 a1 a2 t148 _ A9.out).mono ?_); rintro e w' ⟨rfl, ⟨nd, rfl⟩⟩; refine ⟨_, rfl, ?_⟩) | (go_at_call 59; (with_reducible refine (serifref22_Mix.calls a0 a1 a2 t148 _ A9.out).mono ?_); rintro e w' ⟨rfl, ⟨nd, rfl⟩⟩))
        go_meet
        case rel => exact ⟨_, (true), (by first | rfl | (simp; done) | (simp [*]; done)), H', ⟨by first | omega | exact Nat.le_refl _⟩, ⟨by repeat (first | (with_reducible first | exact HB.out | apply below_alloc | apply pw_below_drewN | apply below_drew1) | exact HB.out)⟩⟩
    case rest =>
      clear HC7
      try clear c1
      try clear p2
      try clear c5
      try clear c10
      try clear c10b0
      try clear c10b1
      try clear c12
      try clear c12b0
      try clear c12b1
      try clear c13
      obtain ⟨kq, x34_6, rfl, HA, HJ6, HB⟩ := hcut
      cases kq with
      | zero => exact absurd HA.out (by simp [seriflaw22_BlendMixes.j0])
      | succ kj6 =>
        have H := HA.out
        clear HA
        simp only [seriflaw22_BlendMixes.j0] at H
        by_cases c14 : x34_6 = true
        · subst c14
          have H1 : (some false) = some r := by rw [if_pos rfl] at H; exact H
          clear H
          have H := H1
          clear H1
          obtain rfl := Option.some.inj H
          go_wp2
          go_ret
          exact ⟨by first | rfl | (simp [errW_none, errW_some] <;> rfl) | (simp [*, errW_none, errW_some] <;> rfl), by repeat (first | (with_reducible first | exact HB.out | apply below_alloc | apply pw_below_drewN | apply below_drew1) | exact HB.out)⟩
        · replace c14 := Bool.eq_false_iff.mpr c14
          subst c14
          have H1 : (if a0 ≤ a1 then (if t147 < a0 then (seriflaw22_BlendMixes.j1 kj6 a0 a1 a2 t147 true) else (if t147 > a1 then (seriflaw22_BlendMixes.j1 kj6 a0 a1 a2 t147 true) else (if a0 ≥ a1 then (if t147 > a0 then (seriflaw22_BlendMixes.j1 kj6 a0 a1 a2 t147 true) else (seriflaw22_BlendMixes.j1 kj6 a0 a1 a2 t147 (decide (t147 < a1)))) else (seriflaw22_BlendMixes.j1 kj6 a0 a1 a2 t147 false)))) else (if a0 ≥ a1 then (if t147 > a0 then (seriflaw22_BlendMixes.j1 kj6 a0 a1 a2 t147 true) else (seriflaw22_BlendMixes.j1 kj6 a0 a1 a2 t147 (decide (t147 < a1)))) else (seriflaw22_BlendMixes.j1 kj6 a0 a1 a2 t147 false))) = some r := by rw [if_neg (show ¬ (false = true) by decide)] at H; exact H
          clear H
          have H := H1
          clear H1
          have HC15 := Aside0.mk H
          clear H
          go_upto_region 6 with (fail)
          go_cut [62] (fun v62 wc => ∃ (kq : Nat) (x62_14 : Bool), v62 = .bool x62_14 ∧ Aside0 (seriflaw22_BlendMixes.j1 kq a0 a1 a2 t147 x62_14 = some r) ∧ Aside0 (kq ≤ kj6) ∧ Aside0 (Below w.heap.size w wc))
          case first =>
            have H := HC15.out
            clear HC15
            by_cases c16 : a0 ≤ a1
            · rw [if_pos c16] at H
              have c16b0 : decide (a0 ≤ a1) = true := decide_eq_true c16
              clear c16
              (first | rw [c16b0] | (simp only [i64_w, i32_w]; rw [c16b0]) | skip)
              by_cases c17 : t147 < a0
              · rw [if_pos c17] at H
                have c17b0 : decide (t147 < a0) = true := decide_eq_true c17
                clear c17
                have H' := Aside0.mk H
                clear H
                go_wp2
                go_meet
                case rel => exact ⟨_, (true), (by first | rfl | (simp; done) | (simp [*]; done)), H', ⟨by have := HJ6.out; first | omega | exact Nat.le_refl _⟩, ⟨by repeat (first | (with_reducible first | exact HB.out | apply below_alloc | apply pw_below_drewN | apply below_drew1) | exact HB.out)⟩⟩
              · rw [if_neg c17] at H
                have c17b0 : decide (t147 < a0) = false := decide_eq_false c17
                clear c17
                by_cases c18 : t147 > a1
                · rw [if_pos c18] at H
                  have c18b0 : decide (a1 < t147) = true := decide_eq_true c18
                  clear c18
                  have H' := Aside0.mk H
                  clear H
                  go_wp2
                  go_meet
                  case rel => exact ⟨_, (true), (by first | rfl | (simp; done) | (simp [*]; done)), H', ⟨by have := HJ6.out; first | omega | exact Nat.le_refl _⟩, ⟨by repeat (first | (with_reducible first | exact HB.out | apply below_alloc | apply pw_below_drewN | apply below_drew1) | exact HB.out)⟩⟩
                · rw [if_neg c18] at H
                  have c18b0 : decide (a1 < t147) = false := decide_eq_false c18
                  clear c18
                  by_cases c19 : a0 ≥ a1
                  · rw [if_pos c19] at H
                    have c19b0 : decide (a1 ≤ a0) = true := decide_eq_true c19
                    clear c19
                    by_cases c20 : t147 > a0
                    · rw [if_pos c20] at H
                      have c20b0 : decide (a0 < t147) = true := decide_eq_true c20
                      clear c20
                      have H' := Aside0.mk H
                      clear H
                      go_wp2
                      go_meet
                      case rel => exact ⟨_, (true), (by first | rfl | (simp; done) | (simp [*]; done)), H', ⟨by have := HJ6.out; first | omega | exact Nat.le_refl _⟩, ⟨by repeat (first | (with_reducible first | exact HB.out | apply below_alloc | apply pw_below_drewN | apply below_drew1) | exact HB.out)⟩⟩
                    · rw [if_neg c20] at H
                      have c20b0 : decide (a0 < t147) = false := decide_eq_false c20
                      clear c20
                      have H' := Aside0.mk H
                      clear H
                      go_wp2
                      go_meet
                      case rel => exact ⟨_, (decide (t147 < a1)), (by first | rfl | (simp; done) | (simp [*]; done)), H', ⟨by have := HJ6.out; first | omega | exact Nat.le_refl _⟩, ⟨by repeat (first | (with_reducible first | exact HB.out | apply below_alloc | apply pw_below_drewN | apply below_drew1) | exact HB.out)⟩⟩
                  · rw [if_neg c19] at H
                    have c19b0 : decide (a1 ≤ a0) = false := decide_eq_false c19
                    clear c19
                    have H' := Aside0.mk H
                    clear H
                    go_wp2
                    go_meet
                    case rel => exact ⟨_, (false), (by first | rfl | (simp; done) | (simp [*]; done)), H', ⟨by have := HJ6.out; first | omega | exact Nat.le_refl _⟩, ⟨by repeat (first | (with_reducible first | exact HB.out | apply below_alloc | apply pw_below_drewN | apply below_drew1) | exact HB.out)⟩⟩
            · rw [if_neg c16] at H
              have c16b0 : decide (a0 ≤ a1) = false := decide_eq_false c16
              clear c16
              (first | rw [c16b0] | (simp only [i64_w, i32_w]; rw [c16b0]) | skip)
              by_cases c21 : a0 ≥ a1
              · rw [if_pos c21] at H
                have c21b0 : decide (a1 ≤ a0) = true := decide_eq_true c21
                clear c21
                by_cases c22 : t147 > a0
                · rw [if_pos c22] at H
                  have c22b0 : decide (a0 < t147) = true := decide_eq_true c22
                  clear c22
                  have H' := Aside0.mk H
                  clear H
                  go_wp2
                  go_meet
                  case rel => exact ⟨_, (true), (by first | rfl | (simp; done) | (simp [*]; done)), H', ⟨by have := HJ6.out; first | omega | exact Nat.le_refl _⟩, ⟨by repeat (first | (with_reducible first | exact HB.out | apply below_alloc | apply pw_below_drewN | apply below_drew1) | exact HB.out)⟩⟩
                · rw [if_neg c22] at H
                  have c22b0 : decide (a0 < t147) = false := decide_eq_false c22
                  clear c22
                  have H' := Aside0.mk H
                  clear H
                  go_wp2
                  go_meet
                  case rel => exact ⟨_, (decide (t147 < a1)), (by first | rfl | (simp; done) | (simp [*]; done)), H', ⟨by have := HJ6.out; first | omega | exact Nat.le_refl _⟩, ⟨by repeat (first | (with_reducible first | exact HB.out | apply below_alloc | apply pw_below_drewN | apply below_drew1) | exact HB.out)⟩⟩
              · rw [if_neg c21] at H
                have c21b0 : decide (a1 ≤ a0) = false := decide_eq_false c21
                clear c21
                have H' := Aside0.mk H
                clear H
                go_wp2
                go_meet
                case rel => exact ⟨_, (false), (by first | rfl | (simp; done) | (simp [*]; done)), H', ⟨by have := HJ6.out; first | omega | exact Nat.le_refl _⟩, ⟨by repeat (first | (with_reducible first | exact HB.out | apply below_alloc | apply pw_below_drewN | apply below_drew1) | exact HB.out)⟩⟩
          case rest =>
            clear HC15
            try clear c1
            try clear c2
            try clear p2
            try clear c5
            try clear c10
            try clear c10b0
            try clear c10b1
            try clear c12
            try clear c12b0
            try clear c12b1
            try clear c13
            try clear c14
            try clear c16
            try clear c16b0
            try clear c17
            try clear c17b0
            try clear c18
            try clear c18b0
            try clear c19
            try clear c19b0
            try clear c20
            try clear c20b0
            try clear c21
            try clear c21b0
            try clear c22
            try clear c22b0
            try clear p2
            obtain ⟨kq, x62_14, rfl, HA, HJ14, HB⟩ := hcut
            cases kq with
            | zero => exact absurd HA.out (by simp [seriflaw22_BlendMixes.j1])
            | succ kj14 =>
              have H := HA.out
              clear HA
              simp only [seriflaw22_BlendMixes.j1] at H
              by_cases c23 : x62_14 = true
              · subst c23
                have H1 : (some false) = some r := by rw [if_pos rfl] at H; exact H
                clear H
                have H := H1
                clear H1
                obtain rfl := Option.some.inj H
                go_wp2
                go_ret
                exact ⟨by first | rfl | (simp [errW_none, errW_some] <;> rfl) | (simp [*, errW_none, errW_some] <;> rfl), by repeat (first | (with_reducible first | exact HB.out | apply below_alloc | apply pw_below_drewN | apply below_drew1) | exact HB.out)⟩
              · replace c23 := Bool.eq_false_iff.mpr c23
                subst c23
                have H1 : (if a2 = 255 then (some true) else ((blend_Mix.f a0 a1 ((a2 + 1) % 256)).bind fun t151 => (if a0 ≤ a1 then (if t151 ≥ t147 then (some true) else (if a0 ≥ a1 then (some (decide (t151 ≤ t147))) else (some false))) else (if a0 ≥ a1 then (some (decide (t151 ≤ t147))) else (some false))))) = some r := by rw [if_neg (show ¬ (false = true) by decide)] at H; exact H
                clear H
                have H := H1
                clear H1
                by_cases c24 : a2 = 255
                · rw [if_pos c24] at H
                  have c24b0 : (a2 == 255) = true := beq_iff_eq.mpr c24
                  have c24b1 : (a2 != 255) = false := bne_eq_false_iff_eq.mpr c24
                  clear c24
                  obtain rfl := Option.some.inj H
                  go_wp2
                  go_ret
                  exact ⟨by first | rfl | (simp [errW_none, errW_some] <;> rfl) | (simp [*, errW_none, errW_some] <;> rfl), by repeat (first | (with_reducible first | exact HB.out | apply below_alloc | apply pw_below_drewN | apply below_drew1) | exact HB.out)⟩
                · rw [if_neg c24] at H
                  have c24b0 : (a2 == 255) = false := beq_eq_false_iff_ne.mpr c24
                  have c24b1 : (a2 != 255) = true := bne_iff_ne.mpr c24
                  replace H := Option.bind_eq_some_iff.mp H
                  obtain ⟨t151, A250, H⟩ := H
                  replace H : (if a0 ≤ a1 then (if t151 ≥ t147 then (some true) else (if a0 ≥ a1 then (some (decide (t151 ≤ t147))) else (some false))) else (if a0 ≥ a1 then (some (decide (t151 ≤ t147))) else (some false))) = some r := H
                  have A25 := Aside0.mk A250
                  clear A250
                  by_cases c26 : a0 ≤ a1
                  · rw [if_pos c26] at H
                    have c26b0 : decide (a0 ≤ a1) = true := decide_eq_true c26
                    clear c26
                    by_cases c27 : t151 ≥ t147
                    · rw [if_pos c27] at H
                      have c27b0 : decide (t147 ≤ t151) = true := decide_eq_true c27
                      clear c27
                      obtain rfl := Option.some.inj H
                      go_wp2_with (first | ((with_reducible refine gate_callee (f := 58) rfl ?_); refine goesL_ (some 69) rfl rfl Try.func58 (by kernel_rfl) rfl #[.int .u8 a0, .int .u8 a1, .int .u8 ((a2 + 1) % 256)] rfl (by (try simp only [List.map_toArray, List.map_cons, List.map_nil]); first | done | rfl | (simp only [List.length_drop, List.length_take]; rfl)) ?_; (with_reducible refine (blend_Mix.calls a0 a1 ((a2 + 1) % 256) t151 _ A25.out).mono ?_); rintro e w' ⟨rfl, ⟨nd, rfl⟩⟩; refine ⟨_, rfl, ?_⟩) | (go_at_call 58; (with_reducible refine (blend_Mix.calls a0 a1 ((a2 + 1) % 256) t151 _ A25.out).mono ?_); rintro e w' ⟨rfl, ⟨nd, rfl⟩⟩))
                      go_ret
                      exact ⟨by first | rfl | (simp [errW_none, errW_some] <;> rfl) | (simp [*, errW_none, errW_some] <;> rfl), by repeat (first | (with_reducible first | exact HB.out | apply below_alloc | apply pw_below_drewN | apply below_drew1) | exact HB.out)⟩
                    · rw [if_neg c27] at H
                      have c27b0 : decide (t147 ≤ t151) = false := decide_eq_false c27
                      clear c27
                      by_cases c28 : a0 ≥ a1
                      · rw [if_pos c28] at H
                        have c28b0 : decide (a1 ≤ a0) = true := decide_eq_true c28
                        clear c28
                        obtain rfl := Option.some.inj H
                        go_wp2_with (first | ((with_reducible refine gate_callee (f := 58) rfl ?_); refine goesL_ (some 69) rfl rfl Try.func58 (by kernel_rfl) rfl #[.int .u8 a0, .int .u8 a1, .int .u8 ((a2 + 1) % 256)] rfl (by (try simp only [List.map_toArray, List.map_cons, List.map_nil]); first | done | rfl | (simp only [List.length_drop, List.length_take]; rfl)) ?_; (with_reducible refine (blend_Mix.calls a0 a1 ((a2 + 1) % 256) t151 _ A25.out).mono ?_); rintro e w' ⟨rfl, ⟨nd, rfl⟩⟩; refine ⟨_, rfl, ?_⟩) | (go_at_call 58; (with_reducible refine (blend_Mix.calls a0 a1 ((a2 + 1) % 256) t151 _ A25.out).mono ?_); rintro e w' ⟨rfl, ⟨nd, rfl⟩⟩))
                        go_ret
                        exact ⟨by first | rfl | (simp [errW_none, errW_some] <;> rfl) | (simp [*, errW_none, errW_some] <;> rfl), by repeat (first | (with_reducible first | exact HB.out | apply below_alloc | apply pw_below_drewN | apply below_drew1) | exact HB.out)⟩
                      · rw [if_neg c28] at H
                        have c28b0 : decide (a1 ≤ a0) = false := decide_eq_false c28
                        clear c28
                        obtain rfl := Option.some.inj H
                        go_wp2_with (first | ((with_reducible refine gate_callee (f := 58) rfl ?_); refine goesL_ (some 69) rfl rfl Try.func58 (by kernel_rfl) rfl #[.int .u8 a0, .int .u8 a1, .int .u8 ((a2 + 1) % 256)] rfl (by (try simp only [List.map_toArray, List.map_cons, List.map_nil]); first | done | rfl | (simp only [List.length_drop, List.length_take]; rfl)) ?_; (with_reducible refine (blend_Mix.calls a0 a1 ((a2 + 1) % 256) t151 _ A25.out).mono ?_); rintro e w' ⟨rfl, ⟨nd, rfl⟩⟩; refine ⟨_, rfl, ?_⟩) | (go_at_call 58; (with_reducible refine (blend_Mix.calls a0 a1 ((a2 + 1) % 256) t151 _ A25.out).mono ?_); rintro e w' ⟨rfl, ⟨nd, rfl⟩⟩))
                        go_ret
                        exact ⟨by first | rfl | (simp [errW_none, errW_some] <;> rfl) | (simp [*, errW_none, errW_some] <;> rfl), by repeat (first | (with_reducible first | exact HB.out | apply below_alloc | apply pw_below_drewN | apply below_drew1) | exact HB.out)⟩
                  · rw [if_neg c26] at H
                    have c26b0 : decide (a0 ≤ a1) = false := decide_eq_false c26
                    clear c26
                    by_cases c29 : a0 ≥ a1
                    · rw [if_pos c29] at H
                      have c29b0 : decide (a1 ≤ a0) = true := decide_eq_true c29
                      clear c29
                      obtain rfl := Option.some.inj H
                      go_wp2_with (first | ((with_reducible refine gate_callee (f := 58) rfl ?_); refine goesL_ (some 69) rfl rfl Try.func58 (by kernel_rfl) rfl #[.int .u8 a0, .int .u8 a1, .int .u8 ((a2 + 1) % 256)] rfl (by (try simp only [List.map_toArray, List.map_cons, List.map_nil]); first | done | rfl | (simp only [List.length_drop, List.length_take]; rfl)) ?_; (with_reducible refine (blend_Mix.calls a0 a1 ((a2 + 1) % 256) t151 _ A25.out).mono ?_); rintro e w' ⟨rfl, ⟨nd, rfl⟩⟩; refine ⟨_, rfl, ?_⟩) | (go_at_call 58; (with_reducible refine (blend_Mix.calls a0 a1 ((a2 + 1) % 256) t151 _ A25.out).mono ?_); rintro e w' ⟨rfl, ⟨nd, rfl⟩⟩))
                      go_ret
                      exact ⟨by first | rfl | (simp [errW_none, errW_some] <;> rfl) | (simp [*, errW_none, errW_some] <;> rfl), by repeat (first | (with_reducible first | exact HB.out | apply below_alloc | apply pw_below_drewN | apply below_drew1) | exact HB.out)⟩
                    · rw [if_neg c29] at H
                      have c29b0 : decide (a1 ≤ a0) = false := decide_eq_false c29
                      clear c29
                      obtain rfl := Option.some.inj H
                      go_wp2_with (first | ((with_reducible refine gate_callee (f := 58) rfl ?_); refine goesL_ (some 69) rfl rfl Try.func58 (by kernel_rfl) rfl #[.int .u8 a0, .int .u8 a1, .int .u8 ((a2 + 1) % 256)] rfl (by (try simp only [List.map_toArray, List.map_cons, List.map_nil]); first | done | rfl | (simp only [List.length_drop, List.length_take]; rfl)) ?_; (with_reducible refine (blend_Mix.calls a0 a1 ((a2 + 1) % 256) t151 _ A25.out).mono ?_); rintro e w' ⟨rfl, ⟨nd, rfl⟩⟩; refine ⟨_, rfl, ?_⟩) | (go_at_call 58; (with_reducible refine (blend_Mix.calls a0 a1 ((a2 + 1) % 256) t151 _ A25.out).mono ?_); rintro e w' ⟨rfl, ⟨nd, rfl⟩⟩))
                      go_ret
                      exact ⟨by first | rfl | (simp [errW_none, errW_some] <;> rfl) | (simp [*, errW_none, errW_some] <;> rfl), by repeat (first | (with_reducible first | exact HB.out | apply below_alloc | apply pw_below_drewN | apply below_drew1) | exact HB.out)⟩
  · replace c5 := Bool.eq_false_iff.mpr c5
    subst c5
    have H1 : (some false) = some r := by rw [if_neg (show ¬ (false = true) by decide)] at H; exact H
    clear H
    have H := H1
    clear H1
    obtain rfl := Option.some.inj H
    go_enter Try.func13, Try.ntmps13
    go_wp2_with (first | ((with_reducible refine gate_callee (f := 54) rfl ?_); refine goesL_ (some 9) rfl rfl Try.func54 (by kernel_rfl) rfl #[] rfl (by (try simp only [List.map_toArray, List.map_cons, List.map_nil]); first | done | rfl | (simp only [List.length_drop, List.length_take]; rfl)) ?_; (with_reducible refine (seriflaw22_blendAlive.calls  false _ A4.out).mono ?_); rintro e w30 ⟨rfl, hb⟩; refine ⟨_, rfl, ?_⟩; have n0_ := Aside0.mk (below_step (by repeat (first | (with_reducible first | exact HB.out | apply below_alloc | apply pw_below_drewN | apply below_drew1) | exact HB.out)) hb); clear HB; have HB := n0_; clear n0_; (try clear hb); (try clear hb2); (try clear hk); (try clear hi)))
    go_ret
    exact ⟨by first | rfl | (simp [errW_none, errW_some] <;> rfl) | (simp [*, errW_none, errW_some] <;> rfl), by repeat (first | (with_reducible first | exact HB.out | apply below_alloc | apply pw_below_drewN | apply below_drew1) | exact HB.out)⟩

/-- THE ONE PURE STATEMENT of seriflaw22_BlendMixes: yours. -/
def seriflaw22_BlendMixes.Pure : Prop := ∀ (a0 : Int) (a1 : Int) (a2 : Int), (Lit.int .u8 a0).wf = true → (Lit.int .u8 a1).wf = true → (Lit.int .u8 a2).wf = true → ∃ k, seriflaw22_BlendMixes.f k a0 a1 a2 = some true
theorem seriflaw22_BlendMixes.walk (P : seriflaw22_BlendMixes.Pure) (a0 : Int) (a1 : Int) (a2 : Int) (w : World) (w0 : (Lit.int .u8 a0).wf = true) (w1 : (Lit.int .u8 a1).wf = true) (w2 : (Lit.int .u8 a2).wf = true) :
    Calls Try.prog 13 #[.int .u8 a0, .int .u8 a1, .int .u8 a2] w fun e w' => e = .returned (.bool true) ∧ Below w.heap.size w w' := by
  obtain ⟨k, h⟩ := P a0 a1 a2 w0 w1 w2
  refine (seriflaw22_BlendMixes.calls k a0 a1 a2 true w h).mono ?_
  rintro e w' ⟨rfl, hd⟩
  exact ⟨rfl, hd⟩

end Go.Proofs.Ytplnaannfnhhgaa.R
