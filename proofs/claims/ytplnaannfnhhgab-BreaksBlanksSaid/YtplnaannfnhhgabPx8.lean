/- The plain functions of some Go functions and the proofs that the Go code comes to their answers: written by a program out of the translation. -/
import Derived.Test.YtplnaannfnhhgabPx0
import Derived.Test.YtplnaannfnhhgabPx6
import Derived.Test.YtplnaannfnhhgabPx7
import Derived.Test.YtplnaannfnhhgabUother
import Derived.Test.YtplnaannfnhhgabRl
import Derived.Test.YtplnaannfnhhgabRp
namespace Go.Proofs.Ytplnaannfnhhgab.P
open Go.RowKit Go.Proofs.YtplnaannfnhhgabW.PrintWords Go.Proofs.YtplnaannfnhhgabW.PrintLast Go.Proofs.YtplnaannfnhhgabW.PrintMore
attribute [local go_sem] max2_int min2_int max_two min_two max_three min_three max_four min_four   -- for this text's walks alone
open Go.Proofs.Ytplnaannfnhhgab.F
set_option linter.unusedVariables false
set_option linter.unusedSimpArgs false

/-! ### serifref18_Behind: function 54 -/
mutual
def serifref18_Behind.l0 : Nat → List Int → Int → Int → Int → Int → Int → Option (Int)
  | 0, _, _, _, _, _, _ => none
  | k + 1, x0, x1, x5, x6, x7, x8 => if x8 ≥ 0 then (serifref18_Behind.j1 k x0 x1 x5 x6 x7 x8 (decide (x7 < 0))) else (serifref18_Behind.j1 k x0 x1 x5 x6 x7 x8 false)
def serifref18_Behind.j1 : Nat → List Int → Int → Int → Int → Int → Int → Bool → Option (Int)
  | 0, _, _, _, _, _, _, _ => none
  | k + 1, x0, x1, x5, x6, x7, x8, x27 => if x27 = true then ((serifref18_Class.f k x0 x8).bind fun t299 => (if t299 = 4 then (serifref18_Behind.l0 k x0 x1 x5 x6 x7 (wrap64 (x8 - 1))) else ((serifref18_Class.f k x0 x8).bind fun t300 => (serifref18_Behind.l0 k x0 x1 x5 x6 t300 (wrap64 (x8 - 1)))))) else (if x5 = 1 then (serifref18_Behind.j2 k x0 x1 x5 x6 x7 true) else (serifref18_Behind.j2 k x0 x1 x5 x6 x7 (x5 == 3)))
def serifref18_Behind.j2 : Nat → List Int → Int → Int → Int → Int → Bool → Option (Int)
  | 0, _, _, _, _, _, _ => none
  | k + 1, x0, x1, x5, x6, x7, x42 => if x42 = true then (some 2) else (if x5 = 2 then (serifref18_Behind.j3 k x0 x1 x5 x6 x7 (x6 == 3)) else (serifref18_Behind.j3 k x0 x1 x5 x6 x7 false))
def serifref18_Behind.j3 : Nat → List Int → Int → Int → Int → Int → Bool → Option (Int)
  | 0, _, _, _, _, _, _ => none
  | k + 1, x0, x1, x5, x6, x7, x48 => if x48 = true then (some 0) else (if x5 = 2 then (some 2) else (if x6 = 1 then (serifref18_Behind.j4 k x0 x1 x5 x6 x7 true) else (if x6 = 2 then (serifref18_Behind.j4 k x0 x1 x5 x6 x7 true) else (if x6 = 3 then (serifref18_Behind.j4 k x0 x1 x5 x6 x7 true) else (if x6 = 4 then (serifref18_Behind.j4 k x0 x1 x5 x6 x7 true) else (serifref18_Behind.j4 k x0 x1 x5 x6 x7 (x6 == 5)))))))
def serifref18_Behind.j4 : Nat → List Int → Int → Int → Int → Int → Bool → Option (Int)
  | 0, _, _, _, _, _, _ => none
  | k + 1, x0, x1, x5, x6, x7, x68 => if x68 = true then (some 0) else (if x7 = 5 then (some 1) else (if 0 ≤ (wrap64 (x1 + 1)) then (if (wrap64 (x1 + 1)) < (x0.length : Int) then ((serifref12_Look.f (rd x0 (wrap64 (x1 + 1)))).bind fun bt302 => (if bt302.2.2 = 8 then ((serifref18_plain.f x5).bind fun t305 => (serifref18_Behind.j5 k x5 x6 x7 (!t305))) else (serifref18_Behind.j5 k x5 x6 x7 false))) else (none)) else (none)))
def serifref18_Behind.j5 : Nat → Int → Int → Int → Bool → Option (Int)
  | 0, _, _, _, _ => none
  | k + 1, x5, x6, x7, x83 => if x83 = true then (some 0) else (if x5 = 7 then (serifref18_Behind.j6 k x5 x6 x7 true) else (if x6 = 7 then (serifref18_Behind.j6 k x5 x6 x7 true) else (if x5 = 6 then (serifref18_Behind.j6 k x5 x6 x7 true) else (if x6 = 6 then (if x5 = 4 then (serifref18_Behind.j6 k x5 x6 x7 false) else (if x5 = 9 then (serifref18_Behind.j6 k x5 x6 x7 false) else (serifref18_Behind.j6 k x5 x6 x7 (x5 != 10)))) else (serifref18_Behind.j6 k x5 x6 x7 false)))))
def serifref18_Behind.j6 : Nat → Int → Int → Int → Bool → Option (Int)
  | 0, _, _, _, _ => none
  | k + 1, x5, x6, x7, x109 => if x109 = true then (some 0) else (if x6 = 12 then (serifref18_Behind.j7 k x5 x6 true) else (if x6 = 14 then (serifref18_Behind.j7 k x5 x6 true) else (if x6 = 15 then (serifref18_Behind.j7 k x5 x6 true) else (if x6 = 16 then (serifref18_Behind.j7 k x5 x6 true) else (if x7 = 11 then (serifref18_Behind.j7 k x5 x6 true) else (if x7 = 13 then (serifref18_Behind.j7 k x5 x6 (x6 == 11)) else (serifref18_Behind.j7 k x5 x6 false)))))))
def serifref18_Behind.j7 : Nat → Int → Int → Bool → Option (Int)
  | 0, _, _, _ => none
  | k + 1, x5, x6, x135 => if x135 = true then (some 0) else (if x5 = 4 then (some 1) else (if x5 = 13 then (some 0) else (if x6 = 13 then (some 0) else (if x6 = 9 then (some 0) else (if x6 = 10 then (some 0) else ((serifref18_pair.f k x5 x6).bind fun t306 => (if t306 = true then (some 0) else (some 1))))))))
end
def serifref18_Behind.f (k : Nat) (l0 : List Int) (a1 : Int) : Option (Int) := if a1 = (wrap64 ((l0.length : Int) - 1)) then (some 2) else ((serifref18_Class.f k l0 a1).bind fun t297 => ((serifref18_Class.f k l0 (wrap64 (a1 + 1))).bind fun t298 => (serifref18_Behind.l0 k l0 a1 t297 t298 (-1) a1)))
theorem serifref18_Behind.mono_l : ∀ k, (∀ y0 y1 y2 y3 y4 y5, LeO (serifref18_Behind.l0 k y0 y1 y2 y3 y4 y5) (serifref18_Behind.l0 (k + 1) y0 y1 y2 y3 y4 y5)) ∧ (∀ y0 y1 y2 y3 y4 y5 y6, LeO (serifref18_Behind.j1 k y0 y1 y2 y3 y4 y5 y6) (serifref18_Behind.j1 (k + 1) y0 y1 y2 y3 y4 y5 y6)) ∧ (∀ y0 y1 y2 y3 y4 y5, LeO (serifref18_Behind.j2 k y0 y1 y2 y3 y4 y5) (serifref18_Behind.j2 (k + 1) y0 y1 y2 y3 y4 y5)) ∧ (∀ y0 y1 y2 y3 y4 y5, LeO (serifref18_Behind.j3 k y0 y1 y2 y3 y4 y5) (serifref18_Behind.j3 (k + 1) y0 y1 y2 y3 y4 y5)) ∧ (∀ y0 y1 y2 y3 y4 y5, LeO (serifref18_Behind.j4 k y0 y1 y2 y3 y4 y5) (serifref18_Behind.j4 (k + 1) y0 y1 y2 y3 y4 y5)) ∧ (∀ y0 y1 y2 y3, LeO (serifref18_Behind.j5 k y0 y1 y2 y3) (serifref18_Behind.j5 (k + 1) y0 y1 y2 y3)) ∧ (∀ y0 y1 y2 y3, LeO (serifref18_Behind.j6 k y0 y1 y2 y3) (serifref18_Behind.j6 (k + 1) y0 y1 y2 y3)) ∧ (∀ y0 y1 y2, LeO (serifref18_Behind.j7 k y0 y1 y2) (serifref18_Behind.j7 (k + 1) y0 y1 y2))
  | 0 => ⟨fun _ _ _ _ _ _ r h => by simp [serifref18_Behind.l0] at h, fun _ _ _ _ _ _ _ r h => by simp [serifref18_Behind.j1] at h, fun _ _ _ _ _ _ r h => by simp [serifref18_Behind.j2] at h, fun _ _ _ _ _ _ r h => by simp [serifref18_Behind.j3] at h, fun _ _ _ _ _ _ r h => by simp [serifref18_Behind.j4] at h, fun _ _ _ _ r h => by simp [serifref18_Behind.j5] at h, fun _ _ _ _ r h => by simp [serifref18_Behind.j6] at h, fun _ _ _ r h => by simp [serifref18_Behind.j7] at h⟩
  | k + 1 => by
    obtain ⟨ih0, ih1, ih2, ih3, ih4, ih5, ih6, ih7⟩ := serifref18_Behind.mono_l k
    refine ⟨?_, ?_, ?_, ?_, ?_, ?_, ?_, ?_⟩
    · intro y0 y1 y2 y3 y4 y5
      unfold serifref18_Behind.l0
      repeat' first
      | (with_reducible exact ih0 _ _ _ _ _ _)
      | (with_reducible exact ih1 _ _ _ _ _ _ _)
      | (with_reducible exact ih2 _ _ _ _ _ _)
      | (with_reducible exact ih3 _ _ _ _ _ _)
      | (with_reducible exact ih4 _ _ _ _ _ _)
      | (with_reducible exact ih5 _ _ _ _)
      | (with_reducible exact ih6 _ _ _ _)
      | (with_reducible exact ih7 _ _ _)
      | (with_reducible exact serifref18_Class.mono _ _ _)
      | (with_reducible exact serifref18_pair.mono _ _ _)
      | (with_reducible exact LeO.refl _)
      | (with_reducible exact LeO.none _)
      | (with_reducible refine LeO.ite ?_ ?_)
      | (with_reducible refine LeO.bind ?_ (fun _ => ?_))
      | exact ih0 _ _ _ _ _ _
      | exact ih1 _ _ _ _ _ _ _
      | exact ih2 _ _ _ _ _ _
      | exact ih3 _ _ _ _ _ _
      | exact ih4 _ _ _ _ _ _
      | exact ih5 _ _ _ _
      | exact ih6 _ _ _ _
      | exact ih7 _ _ _
      | exact serifref18_Class.mono _ _ _
      | exact serifref18_pair.mono _ _ _
      | exact LeO.none _
      | refine LeO.ite ?_ ?_
      | refine LeO.bind ?_ (fun _ => ?_)
    · intro y0 y1 y2 y3 y4 y5 y6
      unfold serifref18_Behind.j1
      repeat' first
      | (with_reducible exact ih0 _ _ _ _ _ _)
      | (with_reducible exact ih1 _ _ _ _ _ _ _)
      | (with_reducible exact ih2 _ _ _ _ _ _)
      | (with_reducible exact ih3 _ _ _ _ _ _)
      | (with_reducible exact ih4 _ _ _ _ _ _)
      | (with_reducible exact ih5 _ _ _ _)
      | (with_reducible exact ih6 _ _ _ _)
      | (with_reducible exact ih7 _ _ _)
      | (with_reducible exact serifref18_Class.mono _ _ _)
      | (with_reducible exact serifref18_pair.mono _ _ _)
      | (with_reducible exact LeO.refl _)
      | (with_reducible exact LeO.none _)
      | (with_reducible refine LeO.ite ?_ ?_)
      | (with_reducible refine LeO.bind ?_ (fun _ => ?_))
      | exact ih0 _ _ _ _ _ _
      | exact ih1 _ _ _ _ _ _ _
      | exact ih2 _ _ _ _ _ _
      | exact ih3 _ _ _ _ _ _
      | exact ih4 _ _ _ _ _ _
      | exact ih5 _ _ _ _
      | exact ih6 _ _ _ _
      | exact ih7 _ _ _
      | exact serifref18_Class.mono _ _ _
      | exact serifref18_pair.mono _ _ _
      | exact LeO.none _
      | refine LeO.ite ?_ ?_
      | refine LeO.bind ?_ (fun _ => ?_)
    · intro y0 y1 y2 y3 y4 y5
      unfold serifref18_Behind.j2
      repeat' first
      | (with_reducible exact ih0 _ _ _ _ _ _)
      | (with_reducible exact ih1 _ _ _ _ _ _ _)
      | (with_reducible exact ih2 _ _ _ _ _ _)
      | (with_reducible exact ih3 _ _ _ _ _ _)
      | (with_reducible exact ih4 _ _ _ _ _ _)
      | (with_reducible exact ih5 _ _ _ _)
      | (with_reducible exact ih6 _ _ _ _)
      | (with_reducible exact ih7 _ _ _)
      | (with_reducible exact serifref18_Class.mono _ _ _)
      | (with_reducible exact serifref18_pair.mono _ _ _)
      | (with_reducible exact LeO.refl _)
      | (with_reducible exact LeO.none _)
      | (with_reducible refine LeO.ite ?_ ?_)
      | (with_reducible refine LeO.bind ?_ (fun _ => ?_))
      | exact ih0 _ _ _ _ _ _
      | exact ih1 _ _ _ _ _ _ _
      | exact ih2 _ _ _ _ _ _
      | exact ih3 _ _ _ _ _ _
      | exact ih4 _ _ _ _ _ _
      | exact ih5 _ _ _ _
      | exact ih6 _ _ _ _
      | exact ih7 _ _ _
      | exact serifref18_Class.mono _ _ _
      | exact serifref18_pair.mono _ _ _
      | exact LeO.none _
      | refine LeO.ite ?_ ?_
      | refine LeO.bind ?_ (fun _ => ?_)
    · intro y0 y1 y2 y3 y4 y5
      unfold serifref18_Behind.j3
      repeat' first
      | (with_reducible exact ih0 _ _ _ _ _ _)
      | (with_reducible exact ih1 _ _ _ _ _ _ _)
      | (with_reducible exact ih2 _ _ _ _ _ _)
      | (with_reducible exact ih3 _ _ _ _ _ _)
      | (with_reducible exact ih4 _ _ _ _ _ _)
      | (with_reducible exact ih5 _ _ _ _)
      | (with_reducible exact ih6 _ _ _ _)
      | (with_reducible exact ih7 _ _ _)
      | (with_reducible exact serifref18_Class.mono _ _ _)
      | (with_reducible exact serifref18_pair.mono _ _ _)
      | (with_reducible exact LeO.refl _)
      | (with_reducible exact LeO.none _)
      | (with_reducible refine LeO.ite ?_ ?_)
      | (with_reducible refine LeO.bind ?_ (fun _ => ?_))
      | exact ih0 _ _ _ _ _ _
      | exact ih1 _ _ _ _ _ _ _
      | exact ih2 _ _ _ _ _ _
      | exact ih3 _ _ _ _ _ _
      | exact ih4 _ _ _ _ _ _
      | exact ih5 _ _ _ _
      | exact ih6 _ _ _ _
      | exact ih7 _ _ _
      | exact serifref18_Class.mono _ _ _
      | exact serifref18_pair.mono _ _ _
      | exact LeO.none _
      | refine LeO.ite ?_ ?_
      | refine LeO.bind ?_ (fun _ => ?_)
    · intro y0 y1 y2 y3 y4 y5
      unfold serifref18_Behind.j4
      repeat' first
      | (with_reducible exact ih0 _ _ _ _ _ _)
      | (with_reducible exact ih1 _ _ _ _ _ _ _)
      | (with_reducible exact ih2 _ _ _ _ _ _)
      | (with_reducible exact ih3 _ _ _ _ _ _)
      | (with_reducible exact ih4 _ _ _ _ _ _)
      | (with_reducible exact ih5 _ _ _ _)
      | (with_reducible exact ih6 _ _ _ _)
      | (with_reducible exact ih7 _ _ _)
      | (with_reducible exact serifref18_Class.mono _ _ _)
      | (with_reducible exact serifref18_pair.mono _ _ _)
      | (with_reducible exact LeO.refl _)
      | (with_reducible exact LeO.none _)
      | (with_reducible refine LeO.ite ?_ ?_)
      | (with_reducible refine LeO.bind ?_ (fun _ => ?_))
      | exact ih0 _ _ _ _ _ _
      | exact ih1 _ _ _ _ _ _ _
      | exact ih2 _ _ _ _ _ _
      | exact ih3 _ _ _ _ _ _
      | exact ih4 _ _ _ _ _ _
      | exact ih5 _ _ _ _
      | exact ih6 _ _ _ _
      | exact ih7 _ _ _
      | exact serifref18_Class.mono _ _ _
      | exact serifref18_pair.mono _ _ _
      | exact LeO.none _
      | refine LeO.ite ?_ ?_
      | refine LeO.bind ?_ (fun _ => ?_)
    · intro y0 y1 y2 y3
      unfold serifref18_Behind.j5
      repeat' first
      | (with_reducible exact ih0 _ _ _ _ _ _)
      | (with_reducible exact ih1 _ _ _ _ _ _ _)
      | (with_reducible exact ih2 _ _ _ _ _ _)
      | (with_reducible exact ih3 _ _ _ _ _ _)
      | (with_reducible exact ih4 _ _ _ _ _ _)
      | (with_reducible exact ih5 _ _ _ _)
      | (with_reducible exact ih6 _ _ _ _)
      | (with_reducible exact ih7 _ _ _)
      | (with_reducible exact serifref18_Class.mono _ _ _)
      | (with_reducible exact serifref18_pair.mono _ _ _)
      | (with_reducible exact LeO.refl _)
      | (with_reducible exact LeO.none _)
      | (with_reducible refine LeO.ite ?_ ?_)
      | (with_reducible refine LeO.bind ?_ (fun _ => ?_))
      | exact ih0 _ _ _ _ _ _
      | exact ih1 _ _ _ _ _ _ _
      | exact ih2 _ _ _ _ _ _
      | exact ih3 _ _ _ _ _ _
      | exact ih4 _ _ _ _ _ _
      | exact ih5 _ _ _ _
      | exact ih6 _ _ _ _
      | exact ih7 _ _ _
      | exact serifref18_Class.mono _ _ _
      | exact serifref18_pair.mono _ _ _
      | exact LeO.none _
      | refine LeO.ite ?_ ?_
      | refine LeO.bind ?_ (fun _ => ?_)
    · intro y0 y1 y2 y3
      unfold serifref18_Behind.j6
      repeat' first
      | (with_reducible exact ih0 _ _ _ _ _ _)
      | (with_reducible exact ih1 _ _ _ _ _ _ _)
      | (with_reducible exact ih2 _ _ _ _ _ _)
      | (with_reducible exact ih3 _ _ _ _ _ _)
      | (with_reducible exact ih4 _ _ _ _ _ _)
      | (with_reducible exact ih5 _ _ _ _)
      | (with_reducible exact ih6 _ _ _ _)
      | (with_reducible exact ih7 _ _ _)
      | (with_reducible exact serifref18_Class.mono _ _ _)
      | (with_reducible exact serifref18_pair.mono _ _ _)
      | (with_reducible exact LeO.refl _)
      | (with_reducible exact LeO.none _)
      | (with_reducible refine LeO.ite ?_ ?_)
      | (with_reducible refine LeO.bind ?_ (fun _ => ?_))
      | exact ih0 _ _ _ _ _ _
      | exact ih1 _ _ _ _ _ _ _
      | exact ih2 _ _ _ _ _ _
      | exact ih3 _ _ _ _ _ _
      | exact ih4 _ _ _ _ _ _
      | exact ih5 _ _ _ _
      | exact ih6 _ _ _ _
      | exact ih7 _ _ _
      | exact serifref18_Class.mono _ _ _
      | exact serifref18_pair.mono _ _ _
      | exact LeO.none _
      | refine LeO.ite ?_ ?_
      | refine LeO.bind ?_ (fun _ => ?_)
    · intro y0 y1 y2
      unfold serifref18_Behind.j7
      repeat' first
      | (with_reducible exact ih0 _ _ _ _ _ _)
      | (with_reducible exact ih1 _ _ _ _ _ _ _)
      | (with_reducible exact ih2 _ _ _ _ _ _)
      | (with_reducible exact ih3 _ _ _ _ _ _)
      | (with_reducible exact ih4 _ _ _ _ _ _)
      | (with_reducible exact ih5 _ _ _ _)
      | (with_reducible exact ih6 _ _ _ _)
      | (with_reducible exact ih7 _ _ _)
      | (with_reducible exact serifref18_Class.mono _ _ _)
      | (with_reducible exact serifref18_pair.mono _ _ _)
      | (with_reducible exact LeO.refl _)
      | (with_reducible exact LeO.none _)
      | (with_reducible refine LeO.ite ?_ ?_)
      | (with_reducible refine LeO.bind ?_ (fun _ => ?_))
      | exact ih0 _ _ _ _ _ _
      | exact ih1 _ _ _ _ _ _ _
      | exact ih2 _ _ _ _ _ _
      | exact ih3 _ _ _ _ _ _
      | exact ih4 _ _ _ _ _ _
      | exact ih5 _ _ _ _
      | exact ih6 _ _ _ _
      | exact ih7 _ _ _
      | exact serifref18_Class.mono _ _ _
      | exact serifref18_pair.mono _ _ _
      | exact LeO.none _
      | refine LeO.ite ?_ ?_
      | refine LeO.bind ?_ (fun _ => ?_)
theorem serifref18_Behind.mono : ∀ a0 a1 k, LeO (serifref18_Behind.f k a0 a1) (serifref18_Behind.f (k + 1) a0 a1) := by
  intro a0 a1 k
  obtain ⟨ih0, ih1, ih2, ih3, ih4, ih5, ih6, ih7⟩ := serifref18_Behind.mono_l k
  unfold serifref18_Behind.f
  repeat' first
      | (with_reducible exact ih0 _ _ _ _ _ _)
      | (with_reducible exact ih1 _ _ _ _ _ _ _)
      | (with_reducible exact ih2 _ _ _ _ _ _)
      | (with_reducible exact ih3 _ _ _ _ _ _)
      | (with_reducible exact ih4 _ _ _ _ _ _)
      | (with_reducible exact ih5 _ _ _ _)
      | (with_reducible exact ih6 _ _ _ _)
      | (with_reducible exact ih7 _ _ _)
      | (with_reducible exact serifref18_Class.mono _ _ _)
      | (with_reducible exact serifref18_pair.mono _ _ _)
      | (with_reducible exact LeO.refl _)
      | (with_reducible exact LeO.none _)
      | (with_reducible refine LeO.ite ?_ ?_)
      | (with_reducible refine LeO.bind ?_ (fun _ => ?_))
      | exact ih0 _ _ _ _ _ _
      | exact ih1 _ _ _ _ _ _ _
      | exact ih2 _ _ _ _ _ _
      | exact ih3 _ _ _ _ _ _
      | exact ih4 _ _ _ _ _ _
      | exact ih5 _ _ _ _
      | exact ih6 _ _ _ _
      | exact ih7 _ _ _
      | exact serifref18_Class.mono _ _ _
      | exact serifref18_pair.mono _ _ _
      | exact LeO.none _
      | refine LeO.ite ?_ ?_
      | refine LeO.bind ?_ (fun _ => ?_)
set_option maxHeartbeats 8000000 in
set_option maxRecDepth 100000 in
theorem serifref18_Behind.calls (k : Nat) (A0 : Option Addr) (c0 : Nat) (l0 : List Int) (a1 : Int) (r : Int) (w : World) (hr0 : Kd.C (Kd.int .i64) w A0 l0.length l0) (hc0 : l0.length ≤ c0) (h : serifref18_Behind.f k l0 a1 = some r) :
    Calls Try.prog 54 #[.slice A0 l0.length c0, .int .i64 a1] w fun e w' => e = .returned (.int .i64 r) ∧ Below w.heap.size w w' := by
  have HR0 := Aside0.mk hr0
  have HC0 := Aside0.mk hc0
  clear hr0 hc0
  have HB := Aside0.mk (Below.refl w.heap.size w)
  have H : (if a1 = (wrap64 ((l0.length : Int) - 1)) then (some 2) else ((serifref18_Class.f k l0 a1).bind fun t297 => ((serifref18_Class.f k l0 (wrap64 (a1 + 1))).bind fun t298 => (serifref18_Behind.l0 k l0 a1 t297 t298 (-1) a1)))) = some r := h
  clear h
  by_cases c3 : a1 = (wrap64 ((l0.length : Int) - 1))
  · rw [if_pos c3] at H
    have c3b0 : (a1 == (wrap64 ((l0.length : Int) - 1))) = true := beq_iff_eq.mpr c3
    have c3b1 : (a1 != (wrap64 ((l0.length : Int) - 1))) = false := bne_eq_false_iff_eq.mpr c3
    clear c3
    obtain rfl := Option.some.inj H
    have hfd24_2 : ∀ (f0_ : Int) (f1_ : Int) (f2_ : Int) (w : World), (Instr.field 24 (.agg #[.int .i64 f0_, .int .i64 f1_, .int .i64 f2_]) 2).run Try.prog w = .ok (.int .i64 f2_) w := fun _ _ _  _ => by kernel_rfl
    go_enter Try.func54, Try.ntmps54
    go_wp2
    go_ret
    exact ⟨by first | rfl | (simp [errW_none, errW_some] <;> rfl) | (simp [*, errW_none, errW_some] <;> rfl), by repeat (first | (with_reducible first | exact HB.out | apply below_alloc | apply pw_below_drewN | apply below_drew1) | exact HB.out)⟩
  · rw [if_neg c3] at H
    have c3b0 : (a1 == (wrap64 ((l0.length : Int) - 1))) = false := beq_eq_false_iff_ne.mpr c3
    have c3b1 : (a1 != (wrap64 ((l0.length : Int) - 1))) = true := bne_iff_ne.mpr c3
    replace H := Option.bind_eq_some_iff.mp H
    obtain ⟨t297, A40, H⟩ := H
    replace H : ((serifref18_Class.f k l0 (wrap64 (a1 + 1))).bind fun t298 => (serifref18_Behind.l0 k l0 a1 t297 t298 (-1) a1)) = some r := H
    have A4 := Aside0.mk A40
    clear A40
    replace H := Option.bind_eq_some_iff.mp H
    obtain ⟨t298, A50, H⟩ := H
    replace H : (serifref18_Behind.l0 k l0 a1 t297 t298 (-1) a1) = some r := H
    have A5 := Aside0.mk A50
    clear A50
    have H' := Aside0.mk H
    clear H
    have hfd24_2 : ∀ (f0_ : Int) (f1_ : Int) (f2_ : Int) (w : World), (Instr.field 24 (.agg #[.int .i64 f0_, .int .i64 f1_, .int .i64 f2_]) 2).run Try.prog w = .ok (.int .i64 f2_) w := fun _ _ _  _ => by kernel_rfl
    go_enter Try.func54, Try.ntmps54
    go_wp2_with (first | ((with_reducible refine gate_callee (f := 70) rfl ?_); refine goesL_ (some 16) rfl rfl Try.func70 (by kernel_rfl) rfl #[.slice A0 l0.length c0, .int .i64 a1] rfl (by (try simp only [List.map_toArray, List.map_cons, List.map_nil]); first | done | rfl | (simp only [List.length_drop, List.length_take]; rfl)) ?_; (with_reducible refine (serifref18_Class.calls k _ _ l0 a1 t297 _ ?side1 ?side2 A4.out).mono ?_); (case side1 => repeat (first | exact HR0.out | (with_reducible refine Kd.C_alloc ?_ _) | (with_reducible refine Kd.C_drewN ?_ _) | (with_reducible refine Kd.C_drew ?_))); (case side2 => exact HC0.out); rintro e w6 ⟨rfl, hb⟩; refine ⟨_, rfl, ?_⟩; have n0_ := Aside0.mk (below_step (by repeat (first | (with_reducible first | exact HB.out | apply below_alloc | apply pw_below_drewN | apply below_drew1) | exact HB.out)) hb); clear HB; have HB := n0_; clear n0_; (try clear hb); (try clear hb2); (try clear hk); (try clear hi)) | ((with_reducible refine gate_callee (f := 70) rfl ?_); refine goesL_ (some 20) rfl rfl Try.func70 (by kernel_rfl) rfl #[.slice A0 l0.length c0, .int .i64 (wrap64 (a1 + 1))] rfl (by (try simp only [List.map_toArray, List.map_cons, List.map_nil]); first | done | rfl | (simp only [List.length_drop, List.length_take]; rfl)) ?_; (with_reducible refine (serifref18_Class.calls k _ _ l0 (wrap64 (a1 + 1)) t298 _ ?side1 ?side2 A5.out).mono ?_); (case side1 => repeat (first | exact (Kd.C_below HR0.out HB.out) | (with_reducible refine Kd.C_alloc ?_ _) | (with_reducible refine Kd.C_drewN ?_ _) | (with_reducible refine Kd.C_drew ?_))); (case side2 => exact HC0.out); rintro e w7 ⟨rfl, hb⟩; refine ⟨_, rfl, ?_⟩; have n0_ := Aside0.mk (below_step (by repeat (first | (with_reducible first | exact HB.out | apply below_alloc | apply pw_below_drewN | apply below_drew1) | exact HB.out)) hb); clear HB; have HB := n0_; clear n0_; (try clear hb); (try clear hb2); (try clear hk); (try clear hi)))
    go_loopg [7, 8] k (fun kq v7 v8 w' => ∃ (x7_1 : Int) (x8_1 : Int), v7 = .int .i64 x7_1 ∧ v8 = .int .i64 x8_1 ∧ Aside0 (serifref18_Behind.l0 kq l0 a1 t297 t298 x7_1 x8_1 = some r) ∧ Aside0 (kq ≤ k) ∧ Aside0 (Below w.heap.size w w'))
    case atStart => exact ⟨((-1)), (a1), (by first | rfl | (simp; done) | (simp [*]; done)), (by first | rfl | (simp; done) | (simp [*]; done)), H', ⟨Nat.le_refl _⟩, ⟨by repeat (first | (with_reducible first | exact HB.out | apply below_alloc | apply pw_below_drewN | apply below_drew1) | exact HB.out)⟩⟩
    case round =>
      clear H'
      try clear p2
      try clear c3
      try clear c3b0
      try clear c3b1
      try clear c5
      try clear p6
      try clear c7
      obtain ⟨x7_1, x8_1, rfl, rfl, HA, HK1, HB⟩ := hrel
      cases gk with
      | zero => exact absurd HA.out (by simp [serifref18_Behind.l0])
      | succ k1 =>
        have H := HA.out
        clear HA
        simp only [serifref18_Behind.l0] at H
        have HC8 := Aside0.mk H
        clear H
        go_upto_region 6 with (fail)
        go_cut [27] (fun v27 wc => ∃ (kq : Nat) (x27_7 : Bool), v27 = .bool x27_7 ∧ Aside0 (serifref18_Behind.j1 kq l0 a1 t297 t298 x7_1 x8_1 x27_7 = some r) ∧ Aside0 (kq ≤ k1) ∧ Aside0 (Below w.heap.size w wc))
        case first => as_aux_lemma =>
          have H := HC8.out
          clear HC8
          by_cases c9 : x8_1 ≥ 0
          · rw [if_pos c9] at H
            have c9b0 : decide (0 ≤ x8_1) = true := decide_eq_true c9
            clear c9
            (first | rw [c9b0] | (simp only [i64_w, i32_w]; rw [c9b0]) | skip)
            have H' := Aside0.mk H
            clear H
            go_wp2
            go_meet
            case rel => exact ⟨_, (decide (x7_1 < 0)), (by first | rfl | (simp; done) | (simp [*]; done)), H', ⟨by have := HK1.out; first | omega | exact Nat.le_refl _⟩, ⟨by repeat (first | (with_reducible first | exact HB.out | apply below_alloc | apply pw_below_drewN | apply below_drew1) | exact HB.out)⟩⟩
          · rw [if_neg c9] at H
            have c9b0 : decide (0 ≤ x8_1) = false := decide_eq_false c9
            clear c9
            (first | rw [c9b0] | (simp only [i64_w, i32_w]; rw [c9b0]) | skip)
            have H' := Aside0.mk H
            clear H
            go_wp2
            go_meet
            case rel => exact ⟨_, (false), (by first | rfl | (simp; done) | (simp [*]; done)), H', ⟨by have := HK1.out; first | omega | exact Nat.le_refl _⟩, ⟨by repeat (first | (with_reducible first | exact HB.out | apply below_alloc | apply pw_below_drewN | apply below_drew1) | exact HB.out)⟩⟩
        case rest => as_aux_lemma =>
          clear HC8
          try clear p2
          try clear c3
          try clear c3b0
          try clear c3b1
          try clear c5
          try clear p6
          try clear c7
          try clear c9
          try clear c9b0
          try clear p2
          try clear p6
          obtain ⟨kq, x27_7, rfl, HA, HJ7, HB⟩ := hcut
          cases kq with
          | zero => exact absurd HA.out (by simp [serifref18_Behind.j1])
          | succ kj7 =>
            have H := HA.out
            clear HA
            simp only [serifref18_Behind.j1] at H
            by_cases c10 : x27_7 = true
            · subst c10
              have H1 : ((serifref18_Class.f kj7 l0 x8_1).bind fun t299 => (if t299 = 4 then (serifref18_Behind.l0 kj7 l0 a1 t297 t298 x7_1 (wrap64 (x8_1 - 1))) else ((serifref18_Class.f kj7 l0 x8_1).bind fun t300 => (serifref18_Behind.l0 kj7 l0 a1 t297 t298 t300 (wrap64 (x8_1 - 1)))))) = some r := by rw [if_pos rfl] at H; exact H
              clear H
              have H := H1
              clear H1
              replace H := Option.bind_eq_some_iff.mp H
              obtain ⟨t299, A110, H⟩ := H
              replace H : (if t299 = 4 then (serifref18_Behind.l0 kj7 l0 a1 t297 t298 x7_1 (wrap64 (x8_1 - 1))) else ((serifref18_Class.f kj7 l0 x8_1).bind fun t300 => (serifref18_Behind.l0 kj7 l0 a1 t297 t298 t300 (wrap64 (x8_1 - 1))))) = some r := H
              have A11 := Aside0.mk A110
              clear A110
              by_cases c12 : t299 = 4
              · rw [if_pos c12] at H
                have c12b0 : (t299 == 4) = true := beq_iff_eq.mpr c12
                have c12b1 : (t299 != 4) = false := bne_eq_false_iff_eq.mpr c12
                clear c12
                have H' := Aside0.mk H
                clear H
                go_wp2_with (first | ((with_reducible refine gate_callee (f := 70) rfl ?_); refine goesL_ (some 32) rfl rfl Try.func70 (by kernel_rfl) rfl #[.slice A0 l0.length c0, .int .i64 x8_1] rfl (by (try simp only [List.map_toArray, List.map_cons, List.map_nil]); first | done | rfl | (simp only [List.length_drop, List.length_take]; rfl)) ?_; (with_reducible refine (serifref18_Class.calls kj7 _ _ l0 x8_1 t299 _ ?side1 ?side2 A11.out).mono ?_); (case side1 => repeat (first | exact (Kd.C_below HR0.out HB.out) | (with_reducible refine Kd.C_alloc ?_ _) | (with_reducible refine Kd.C_drewN ?_ _) | (with_reducible refine Kd.C_drew ?_))); (case side2 => exact HC0.out); rintro e w13 ⟨rfl, hb⟩; refine ⟨_, rfl, ?_⟩; have n0_ := Aside0.mk (below_step (by repeat (first | (with_reducible first | exact HB.out | apply below_alloc | apply pw_below_drewN | apply below_drew1) | exact HB.out)) hb); clear HB; have HB := n0_; clear n0_; (try clear hb); (try clear hb2); (try clear hk); (try clear hi)))
                go_roundg kj7
                case measure => have := HK1.out; have := HJ7.out; omega
                case rel => exact ⟨(x7_1), (wrap64 (x8_1 - 1)), (by first | rfl | (simp; done) | (simp [*]; done)), (by first | rfl | (simp; done) | (simp [*]; done)), H', ⟨by have := HK1.out; have := HJ7.out; omega⟩, ⟨by repeat (first | (with_reducible first | exact HB.out | apply below_alloc | apply pw_below_drewN | apply below_drew1) | exact HB.out)⟩⟩
              · rw [if_neg c12] at H
                have c12b0 : (t299 == 4) = false := beq_eq_false_iff_ne.mpr c12
                have c12b1 : (t299 != 4) = true := bne_iff_ne.mpr c12
                replace H := Option.bind_eq_some_iff.mp H
                obtain ⟨t300, A140, H⟩ := H
                replace H : (serifref18_Behind.l0 kj7 l0 a1 t297 t298 t300 (wrap64 (x8_1 - 1))) = some r := H
                have A14 := Aside0.mk A140
                clear A140
                have H' := Aside0.mk H
                clear H
                go_wp2_with (first | ((with_reducible refine gate_callee (f := 70) rfl ?_); refine goesL_ (some 32) rfl rfl Try.func70 (by kernel_rfl) rfl #[.slice A0 l0.length c0, .int .i64 x8_1] rfl (by (try simp only [List.map_toArray, List.map_cons, List.map_nil]); first | done | rfl | (simp only [List.length_drop, List.length_take]; rfl)) ?_; (with_reducible refine (serifref18_Class.calls kj7 _ _ l0 x8_1 t299 _ ?side1 ?side2 A11.out).mono ?_); (case side1 => repeat (first | exact (Kd.C_below HR0.out HB.out) | (with_reducible refine Kd.C_alloc ?_ _) | (with_reducible refine Kd.C_drewN ?_ _) | (with_reducible refine Kd.C_drew ?_))); (case side2 => exact HC0.out); rintro e w15 ⟨rfl, hb⟩; refine ⟨_, rfl, ?_⟩; have n0_ := Aside0.mk (below_step (by repeat (first | (with_reducible first | exact HB.out | apply below_alloc | apply pw_below_drewN | apply below_drew1) | exact HB.out)) hb); clear HB; have HB := n0_; clear n0_; (try clear hb); (try clear hb2); (try clear hk); (try clear hi)) | ((with_reducible refine gate_callee (f := 70) rfl ?_); refine goesL_ (some 36) rfl rfl Try.func70 (by kernel_rfl) rfl #[.slice A0 l0.length c0, .int .i64 x8_1] rfl (by (try simp only [List.map_toArray, List.map_cons, List.map_nil]); first | done | rfl | (simp only [List.length_drop, List.length_take]; rfl)) ?_; (with_reducible refine (serifref18_Class.calls kj7 _ _ l0 x8_1 t300 _ ?side1 ?side2 A14.out).mono ?_); (case side1 => repeat (first | exact (Kd.C_below HR0.out HB.out) | (with_reducible refine Kd.C_alloc ?_ _) | (with_reducible refine Kd.C_drewN ?_ _) | (with_reducible refine Kd.C_drew ?_))); (case side2 => exact HC0.out); rintro e w16 ⟨rfl, hb⟩; refine ⟨_, rfl, ?_⟩; have n0_ := Aside0.mk (below_step (by repeat (first | (with_reducible first | exact HB.out | apply below_alloc | apply pw_below_drewN | apply below_drew1) | exact HB.out)) hb); clear HB; have HB := n0_; clear n0_; (try clear hb); (try clear hb2); (try clear hk); (try clear hi)))
                go_roundg kj7
                case measure => have := HK1.out; have := HJ7.out; omega
                case rel => exact ⟨(t300), (wrap64 (x8_1 - 1)), (by first | rfl | (simp; done) | (simp [*]; done)), (by first | rfl | (simp; done) | (simp [*]; done)), H', ⟨by have := HK1.out; have := HJ7.out; omega⟩, ⟨by repeat (first | (with_reducible first | exact HB.out | apply below_alloc | apply pw_below_drewN | apply below_drew1) | exact HB.out)⟩⟩
            · replace c10 := Bool.eq_false_iff.mpr c10
              subst c10
              have H1 : (if t297 = 1 then (serifref18_Behind.j2 kj7 l0 a1 t297 t298 x7_1 true) else (serifref18_Behind.j2 kj7 l0 a1 t297 t298 x7_1 (t297 == 3))) = some r := by rw [if_neg (show ¬ (false = true) by decide)] at H; exact H
              clear H
              have H := H1
              clear H1
              have HC17 := Aside0.mk H
              clear H
              go_upto_region 10 with (fail)
              go_cut [42] (fun v42 wc => ∃ (kq : Nat) (x42_16 : Bool), v42 = .bool x42_16 ∧ Aside0 (serifref18_Behind.j2 kq l0 a1 t297 t298 x7_1 x42_16 = some r) ∧ Aside0 (kq ≤ kj7) ∧ Aside0 (Below w.heap.size w wc))
              case first => as_aux_lemma =>
                have H := HC17.out
                clear HC17
                by_cases c18 : t297 = 1
                · rw [if_pos c18] at H
                  have c18b0 : (t297 == 1) = true := beq_iff_eq.mpr c18
                  have c18b1 : (t297 != 1) = false := bne_eq_false_iff_eq.mpr c18
                  clear c18
                  (first | rw [c18b0] | (simp only [i64_w, i32_w]; rw [c18b0]) | skip)
                  have H' := Aside0.mk H
                  clear H
                  go_wp2
                  go_meet
                  case rel => exact ⟨_, (true), (by first | rfl | (simp; done) | (simp [*]; done)), H', ⟨by have := HK1.out; have := HJ7.out; first | omega | exact Nat.le_refl _⟩, ⟨by repeat (first | (with_reducible first | exact HB.out | apply below_alloc | apply pw_below_drewN | apply below_drew1) | exact HB.out)⟩⟩
                · rw [if_neg c18] at H
                  have c18b0 : (t297 == 1) = false := beq_eq_false_iff_ne.mpr c18
                  have c18b1 : (t297 != 1) = true := bne_iff_ne.mpr c18
                  (first | rw [c18b0] | (simp only [i64_w, i32_w]; rw [c18b0]) | skip)
                  have H' := Aside0.mk H
                  clear H
                  go_wp2
                  go_meet
                  case rel => exact ⟨_, ((t297 == 3)), (by first | rfl | (simp; done) | (simp [*]; done)), H', ⟨by have := HK1.out; have := HJ7.out; first | omega | exact Nat.le_refl _⟩, ⟨by repeat (first | (with_reducible first | exact HB.out | apply below_alloc | apply pw_below_drewN | apply below_drew1) | exact HB.out)⟩⟩
              case rest => as_aux_lemma =>
                clear HC17
                try clear c1
                try clear p2
                try clear c3
                try clear c3b0
                try clear c3b1
                try clear c5
                try clear p6
                try clear c7
                try clear c9
                try clear c9b0
                try clear c10
                try clear c12
                try clear c12b0
                try clear c12b1
                try clear c18
                try clear c18b0
                try clear c18b1
                try clear p2
                try clear p6
                obtain ⟨kq, x42_16, rfl, HA, HJ16, HB⟩ := hcut
                cases kq with
                | zero => exact absurd HA.out (by simp [serifref18_Behind.j2])
                | succ kj16 =>
                  have H := HA.out
                  clear HA
                  simp only [serifref18_Behind.j2] at H
                  by_cases c19 : x42_16 = true
                  · subst c19
                    have H1 : (some 2) = some r := by rw [if_pos rfl] at H; exact H
                    clear H
                    have H := H1
                    clear H1
                    obtain rfl := Option.some.inj H
                    go_wp2
                    go_ret
                    exact ⟨by first | rfl | (simp [errW_none, errW_some] <;> rfl) | (simp [*, errW_none, errW_some] <;> rfl), by repeat (first | (with_reducible first | exact HB.out | apply below_alloc | apply pw_below_drewN | apply below_drew1) | exact HB.out)⟩
                  · replace c19 := Bool.eq_false_iff.mpr c19
                    subst c19
                    have H1 : (if t297 = 2 then (serifref18_Behind.j3 kj16 l0 a1 t297 t298 x7_1 (t298 == 3)) else (serifref18_Behind.j3 kj16 l0 a1 t297 t298 x7_1 false)) = some r := by rw [if_neg (show ¬ (false = true) by decide)] at H; exact H
                    clear H
                    have H := H1
                    clear H1
                    have HC20 := Aside0.mk H
                    clear H
                    go_upto_region 12 with (fail)
                    go_cut [48] (fun v48 wc => ∃ (kq : Nat) (x48_19 : Bool), v48 = .bool x48_19 ∧ Aside0 (serifref18_Behind.j3 kq l0 a1 t297 t298 x7_1 x48_19 = some r) ∧ Aside0 (kq ≤ kj16) ∧ Aside0 (Below w.heap.size w wc))
                    case first => as_aux_lemma =>
                      have H := HC20.out
                      clear HC20
                      by_cases c21 : t297 = 2
                      · rw [if_pos c21] at H
                        have c21b0 : (t297 == 2) = true := beq_iff_eq.mpr c21
                        have c21b1 : (t297 != 2) = false := bne_eq_false_iff_eq.mpr c21
                        clear c21
                        (first | rw [c21b0] | (simp only [i64_w, i32_w]; rw [c21b0]) | skip)
                        have H' := Aside0.mk H
                        clear H
                        go_wp2
                        go_meet
                        case rel => exact ⟨_, ((t298 == 3)), (by first | rfl | (simp; done) | (simp [*]; done)), H', ⟨by have := HK1.out; have := HJ7.out; have := HJ16.out; first | omega | exact Nat.le_refl _⟩, ⟨by repeat (first | (with_reducible first | exact HB.out | apply below_alloc | apply pw_below_drewN | apply below_drew1) | exact HB.out)⟩⟩
                      · rw [if_neg c21] at H
                        have c21b0 : (t297 == 2) = false := beq_eq_false_iff_ne.mpr c21
                        have c21b1 : (t297 != 2) = true := bne_iff_ne.mpr c21
                        (first | rw [c21b0] | (simp only [i64_w, i32_w]; rw [c21b0]) | skip)
                        have H' := Aside0.mk H
                        clear H
                        go_wp2
                        go_meet
                        case rel => exact ⟨_, (false), (by first | rfl | (simp; done) | (simp [*]; done)), H', ⟨by have := HK1.out; have := HJ7.out; have := HJ16.out; first | omega | exact Nat.le_refl _⟩, ⟨by repeat (first | (with_reducible first | exact HB.out | apply below_alloc | apply pw_below_drewN | apply below_drew1) | exact HB.out)⟩⟩
                    case rest => as_aux_lemma =>
                      clear HC20
                      try clear c1
                      try clear c2
                      try clear p2
                      try clear c3
                      try clear c3b0
                      try clear c3b1
                      try clear c5
                      try clear p6
                      try clear c7
                      try clear c9
                      try clear c9b0
                      try clear c10
                      try clear c12
                      try clear c12b0
                      try clear c12b1
                      try clear c18
                      try clear c18b0
                      try clear c18b1
                      try clear c19
                      try clear c21
                      try clear c21b0
                      try clear c21b1
                      try clear p2
                      try clear p6
                      obtain ⟨kq, x48_19, rfl, HA, HJ19, HB⟩ := hcut
                      cases kq with
                      | zero => exact absurd HA.out (by simp [serifref18_Behind.j3])
                      | succ kj19 =>
                        have H := HA.out
                        clear HA
                        simp only [serifref18_Behind.j3] at H
                        by_cases c22 : x48_19 = true
                        · subst c22
                          have H1 : (some 0) = some r := by rw [if_pos rfl] at H; exact H
                          clear H
                          have H := H1
                          clear H1
                          obtain rfl := Option.some.inj H
                          go_wp2
                          go_ret
                          exact ⟨by first | rfl | (simp [errW_none, errW_some] <;> rfl) | (simp [*, errW_none, errW_some] <;> rfl), by repeat (first | (with_reducible first | exact HB.out | apply below_alloc | apply pw_below_drewN | apply below_drew1) | exact HB.out)⟩
                        · replace c22 := Bool.eq_false_iff.mpr c22
                          subst c22
                          have H1 : (if t297 = 2 then (some 2) else (if t298 = 1 then (serifref18_Behind.j4 kj19 l0 a1 t297 t298 x7_1 true) else (if t298 = 2 then (serifref18_Behind.j4 kj19 l0 a1 t297 t298 x7_1 true) else (if t298 = 3 then (serifref18_Behind.j4 kj19 l0 a1 t297 t298 x7_1 true) else (if t298 = 4 then (serifref18_Behind.j4 kj19 l0 a1 t297 t298 x7_1 true) else (serifref18_Behind.j4 kj19 l0 a1 t297 t298 x7_1 (t298 == 5))))))) = some r := by rw [if_neg (show ¬ (false = true) by decide)] at H; exact H
                          clear H
                          have H := H1
                          clear H1
                          by_cases c23 : t297 = 2
                          · rw [if_pos c23] at H
                            have c23b0 : (t297 == 2) = true := beq_iff_eq.mpr c23
                            have c23b1 : (t297 != 2) = false := bne_eq_false_iff_eq.mpr c23
                            clear c23
                            obtain rfl := Option.some.inj H
                            go_wp2
                            go_ret
                            exact ⟨by first | rfl | (simp [errW_none, errW_some] <;> rfl) | (simp [*, errW_none, errW_some] <;> rfl), by repeat (first | (with_reducible first | exact HB.out | apply below_alloc | apply pw_below_drewN | apply below_drew1) | exact HB.out)⟩
                          · rw [if_neg c23] at H
                            have c23b0 : (t297 == 2) = false := beq_eq_false_iff_ne.mpr c23
                            have c23b1 : (t297 != 2) = true := bne_iff_ne.mpr c23
                            have HC24 := Aside0.mk H
                            clear H
                            go_upto_region 16 with (fail)
                            go_cut [68] (fun v68 wc => ∃ (kq : Nat) (x68_23 : Bool), v68 = .bool x68_23 ∧ Aside0 (serifref18_Behind.j4 kq l0 a1 t297 t298 x7_1 x68_23 = some r) ∧ Aside0 (kq ≤ kj19) ∧ Aside0 (Below w.heap.size w wc))
                            case first => as_aux_lemma =>
                              have H := HC24.out
                              clear HC24
                              by_cases c25 : t298 = 1
                              · rw [if_pos c25] at H
                                have c25b0 : (t298 == 1) = true := beq_iff_eq.mpr c25
                                have c25b1 : (t298 != 1) = false := bne_eq_false_iff_eq.mpr c25
                                clear c25
                                (first | rw [c25b0] | (simp only [i64_w, i32_w]; rw [c25b0]) | skip)
                                have H' := Aside0.mk H
                                clear H
                                go_wp2
                                go_meet
                                case rel => exact ⟨_, (true), (by first | rfl | (simp; done) | (simp [*]; done)), H', ⟨by have := HK1.out; have := HJ7.out; have := HJ16.out; have := HJ19.out; first | omega | exact Nat.le_refl _⟩, ⟨by repeat (first | (with_reducible first | exact HB.out | apply below_alloc | apply pw_below_drewN | apply below_drew1) | exact HB.out)⟩⟩
                              · rw [if_neg c25] at H
                                have c25b0 : (t298 == 1) = false := beq_eq_false_iff_ne.mpr c25
                                have c25b1 : (t298 != 1) = true := bne_iff_ne.mpr c25
                                (first | rw [c25b0] | (simp only [i64_w, i32_w]; rw [c25b0]) | skip)
                                by_cases c26 : t298 = 2
                                · rw [if_pos c26] at H
                                  have c26b0 : (t298 == 2) = true := beq_iff_eq.mpr c26
                                  have c26b1 : (t298 != 2) = false := bne_eq_false_iff_eq.mpr c26
                                  clear c26
                                  have H' := Aside0.mk H
                                  clear H
                                  go_wp2
                                  go_meet
                                  case rel => exact ⟨_, (true), (by first | rfl | (simp; done) | (simp [*]; done)), H', ⟨by have := HK1.out; have := HJ7.out; have := HJ16.out; have := HJ19.out; first | omega | exact Nat.le_refl _⟩, ⟨by repeat (first | (with_reducible first | exact HB.out | apply below_alloc | apply pw_below_drewN | apply below_drew1) | exact HB.out)⟩⟩
                                · rw [if_neg c26] at H
                                  have c26b0 : (t298 == 2) = false := beq_eq_false_iff_ne.mpr c26
                                  have c26b1 : (t298 != 2) = true := bne_iff_ne.mpr c26
                                  by_cases c27 : t298 = 3
                                  · rw [if_pos c27] at H
                                    have c27b0 : (t298 == 3) = true := beq_iff_eq.mpr c27
                                    have c27b1 : (t298 != 3) = false := bne_eq_false_iff_eq.mpr c27
                                    clear c27
                                    have H' := Aside0.mk H
                                    clear H
                                    go_wp2
                                    go_meet
                                    case rel => exact ⟨_, (true), (by first | rfl | (simp; done) | (simp [*]; done)), H', ⟨by have := HK1.out; have := HJ7.out; have := HJ16.out; have := HJ19.out; first | omega | exact Nat.le_refl _⟩, ⟨by repeat (first | (with_reducible first | exact HB.out | apply below_alloc | apply pw_below_drewN | apply below_drew1) | exact HB.out)⟩⟩
                                  · rw [if_neg c27] at H
                                    have c27b0 : (t298 == 3) = false := beq_eq_false_iff_ne.mpr c27
                                    have c27b1 : (t298 != 3) = true := bne_iff_ne.mpr c27
                                    by_cases c28 : t298 = 4
                                    · rw [if_pos c28] at H
                                      have c28b0 : (t298 == 4) = true := beq_iff_eq.mpr c28
                                      have c28b1 : (t298 != 4) = false := bne_eq_false_iff_eq.mpr c28
                                      clear c28
                                      have H' := Aside0.mk H
                                      clear H
                                      go_wp2
                                      go_meet
                                      case rel => exact ⟨_, (true), (by first | rfl | (simp; done) | (simp [*]; done)), H', ⟨by have := HK1.out; have := HJ7.out; have := HJ16.out; have := HJ19.out; first | omega | exact Nat.le_refl _⟩, ⟨by repeat (first | (with_reducible first | exact HB.out | apply below_alloc | apply pw_below_drewN | apply below_drew1) | exact HB.out)⟩⟩
                                    · rw [if_neg c28] at H
                                      have c28b0 : (t298 == 4) = false := beq_eq_false_iff_ne.mpr c28
                                      have c28b1 : (t298 != 4) = true := bne_iff_ne.mpr c28
                                      have H' := Aside0.mk H
                                      clear H
                                      go_wp2
                                      go_meet
                                      case rel => exact ⟨_, ((t298 == 5)), (by first | rfl | (simp; done) | (simp [*]; done)), H', ⟨by have := HK1.out; have := HJ7.out; have := HJ16.out; have := HJ19.out; first | omega | exact Nat.le_refl _⟩, ⟨by repeat (first | (with_reducible first | exact HB.out | apply below_alloc | apply pw_below_drewN | apply below_drew1) | exact HB.out)⟩⟩
                            case rest => as_aux_lemma =>
                              clear HC24
                              try clear c1
                              try clear c2
                              try clear p2
                              try clear c3
                              try clear c3b0
                              try clear c3b1
                              try clear c5
                              try clear p6
                              try clear c7
                              try clear c9
                              try clear c9b0
                              try clear c10
                              try clear c12
                              try clear c12b0
                              try clear c12b1
                              try clear c18
                              try clear c18b0
                              try clear c18b1
                              try clear c19
                              try clear c21
                              try clear c21b0
                              try clear c21b1
                              try clear c22
                              try clear c23
                              try clear c23b0
                              try clear c23b1
                              try clear c25
                              try clear c25b0
                              try clear c25b1
                              try clear c26
                              try clear c26b0
                              try clear c26b1
                              try clear c27
                              try clear c27b0
                              try clear c27b1
                              try clear c28
                              try clear c28b0
                              try clear c28b1
                              try clear p2
                              try clear p6
                              obtain ⟨kq, x68_23, rfl, HA, HJ23, HB⟩ := hcut
                              cases kq with
                              | zero => exact absurd HA.out (by simp [serifref18_Behind.j4])
                              | succ kj23 =>
                                have H := HA.out
                                clear HA
                                simp only [serifref18_Behind.j4] at H
                                by_cases c29 : x68_23 = true
                                · subst c29
                                  have H1 : (some 0) = some r := by rw [if_pos rfl] at H; exact H
                                  clear H
                                  have H := H1
                                  clear H1
                                  obtain rfl := Option.some.inj H
                                  go_wp2
                                  go_ret
                                  exact ⟨by first | rfl | (simp [errW_none, errW_some] <;> rfl) | (simp [*, errW_none, errW_some] <;> rfl), by repeat (first | (with_reducible first | exact HB.out | apply below_alloc | apply pw_below_drewN | apply below_drew1) | exact HB.out)⟩
                                · replace c29 := Bool.eq_false_iff.mpr c29
                                  subst c29
                                  have H1 : (if x7_1 = 5 then (some 1) else (if 0 ≤ (wrap64 (a1 + 1)) then (if (wrap64 (a1 + 1)) < (l0.length : Int) then ((serifref12_Look.f (rd l0 (wrap64 (a1 + 1)))).bind fun bt302 => (if bt302.2.2 = 8 then ((serifref18_plain.f t297).bind fun t305 => (serifref18_Behind.j5 kj23 t297 t298 x7_1 (!t305))) else (serifref18_Behind.j5 kj23 t297 t298 x7_1 false))) else (none)) else (none))) = some r := by rw [if_neg (show ¬ (false = true) by decide)] at H; exact H
                                  clear H
                                  have H := H1
                                  clear H1
                                  by_cases c30 : x7_1 = 5
                                  · rw [if_pos c30] at H
                                    have c30b0 : (x7_1 == 5) = true := beq_iff_eq.mpr c30
                                    have c30b1 : (x7_1 != 5) = false := bne_eq_false_iff_eq.mpr c30
                                    clear c30
                                    obtain rfl := Option.some.inj H
                                    go_wp2
                                    go_ret
                                    exact ⟨by first | rfl | (simp [errW_none, errW_some] <;> rfl) | (simp [*, errW_none, errW_some] <;> rfl), by repeat (first | (with_reducible first | exact HB.out | apply below_alloc | apply pw_below_drewN | apply below_drew1) | exact HB.out)⟩
                                  · rw [if_neg c30] at H
                                    have c30b0 : (x7_1 == 5) = false := beq_eq_false_iff_ne.mpr c30
                                    have c30b1 : (x7_1 != 5) = true := bne_iff_ne.mpr c30
                                    have HC31 := Aside0.mk H
                                    clear H
                                    go_upto_region 20 with (fail)
                                    go_cut [83] (fun v83 wc => ∃ (kq : Nat) (x83_30 : Bool), v83 = .bool x83_30 ∧ Aside0 (serifref18_Behind.j5 kq t297 t298 x7_1 x83_30 = some r) ∧ Aside0 (kq ≤ kj23) ∧ Aside0 (Below w.heap.size w wc))
                                    case first => as_aux_lemma =>
                                      have H := HC31.out
                                      clear HC31
                                      obtain ⟨ji32, hji32⟩ : ∃ j_ : Int, (wrap64 (a1 + 1)) = j_ := ⟨_, rfl⟩
                                      replace H : (if 0 ≤ (ji32) then (if (ji32) < (l0.length : Int) then ((serifref12_Look.f (rd l0 (ji32))).bind fun bt302 => (if bt302.2.2 = 8 then ((serifref18_plain.f t297).bind fun t305 => (serifref18_Behind.j5 kj23 t297 t298 x7_1 (!t305))) else (serifref18_Behind.j5 kj23 t297 t298 x7_1 false))) else (none)) else (none)) = some r := by first | (rw [hji32] at H; exact H) | (simp only [hji32] at H ⊢; exact H)
                                      have hji32w : (IntKind.i64.wrap (a1 + 1)) = ji32 := (i64_w _).trans hji32
                                      by_cases c33 : 0 ≤ (ji32)
                                      · rw [if_pos c33] at H
                                        have c33b0 : decide (0 ≤ (ji32)) = true := decide_eq_true c33
                                        clear c33
                                        (first | rw [c33b0] | (simp only [i64_w, i32_w]; rw [c33b0]) | skip)
                                        by_cases c34 : (ji32) < (l0.length : Int)
                                        · rw [if_pos c34] at H
                                          have c34b0 : decide ((ji32) < (l0.length : Int)) = true := decide_eq_true c34
                                          clear c34
                                          replace H := Option.bind_eq_some_iff.mp H
                                          obtain ⟨⟨t302, t303, t304⟩, A350, H⟩ := H
                                          replace H : (if t304 = 8 then ((serifref18_plain.f t297).bind fun t305 => (serifref18_Behind.j5 kj23 t297 t298 x7_1 (!t305))) else (serifref18_Behind.j5 kj23 t297 t298 x7_1 false)) = some r := H
                                          have A35 := Aside0.mk A350
                                          clear A350
                                          by_cases c36 : t304 = 8
                                          · rw [if_pos c36] at H
                                            have c36b0 : (t304 == 8) = true := beq_iff_eq.mpr c36
                                            have c36b1 : (t304 != 8) = false := bne_eq_false_iff_eq.mpr c36
                                            clear c36
                                            replace H := Option.bind_eq_some_iff.mp H
                                            obtain ⟨t305, A370, H⟩ := H
                                            replace H : (serifref18_Behind.j5 kj23 t297 t298 x7_1 (!t305)) = some r := H
                                            have A37 := Aside0.mk A370
                                            clear A370
                                            have H' := Aside0.mk H
                                            clear H
                                            have p301 : 0 ≤ ((ji32) : Int) := of_decide_eq_true (by first | (with_reducible assumption) | assumption)
                                            have q301 : (ji32) < (l0.length : Int) := of_decide_eq_true (by first | (with_reducible assumption) | assumption)
                                            obtain ⟨ad301, e301, hx301_0⟩ := Kd.at_int HR0.out (ji32) p301 q301
                                            cases e301
                                            replace hx301_0 := (HB.out.cell (World.block_lt_of_cell? w _ hx301_0)).trans hx301_0
                                            replace p301 := eq_true p301
                                            replace q301 := eq_true q301
                                            go_wp2_with (first | ((with_reducible refine gate_callee (f := 17) rfl ?_); refine goesL_ (some 76) rfl rfl Try.func17 (by kernel_rfl) rfl #[.int .i64 (rd l0 (ji32))] rfl (by (try simp only [List.map_toArray, List.map_cons, List.map_nil]); first | done | (simp only [hji32]; rfl) | rfl | (simp only [List.length_drop, List.length_take]; rfl)) ?_; (with_reducible refine (serifref12_Look.calls (rd l0 (ji32)) t302 t303 t304 _ A35.out).mono ?_); rintro e w38 ⟨rfl, hb⟩; refine ⟨_, rfl, ?_⟩; have n0_ := Aside0.mk (below_step (by repeat (first | (with_reducible first | exact HB.out | apply below_alloc | apply pw_below_drewN | apply below_drew1) | exact HB.out)) hb); clear HB; have HB := n0_; clear n0_; (try clear hb); (try clear hb2); (try clear hk); (try clear hi)) | (go_at_call 71; (with_reducible refine (serifref18_plain.calls t297 t305 _ A37.out).mono ?_); rintro e w' ⟨rfl, ⟨nd, rfl⟩⟩) | (go_at_call 71; (with_reducible refine (serifref18_plain.calls t297 t305 _ A37.out).mono ?_); rintro e w' ⟨rfl, ⟨nd, rfl⟩⟩))
                                            go_meet
                                            case rel => exact ⟨_, (!t305), (by first | rfl | (simp; done) | (simp [*]; done)), H', ⟨by have := HK1.out; have := HJ7.out; have := HJ16.out; have := HJ19.out; have := HJ23.out; first | omega | exact Nat.le_refl _⟩, ⟨by repeat (first | (with_reducible first | exact HB.out | apply below_alloc | apply pw_below_drewN | apply below_drew1) | exact HB.out)⟩⟩
                                          · rw [if_neg c36] at H
                                            have c36b0 : (t304 == 8) = false := beq_eq_false_iff_ne.mpr c36
                                            have c36b1 : (t304 != 8) = true := bne_iff_ne.mpr c36
                                            have H' := Aside0.mk H
                                            clear H
                                            have p301 : 0 ≤ ((ji32) : Int) := of_decide_eq_true (by first | (with_reducible assumption) | assumption)
                                            have q301 : (ji32) < (l0.length : Int) := of_decide_eq_true (by first | (with_reducible assumption) | assumption)
                                            obtain ⟨ad301, e301, hx301_0⟩ := Kd.at_int HR0.out (ji32) p301 q301
                                            cases e301
                                            replace hx301_0 := (HB.out.cell (World.block_lt_of_cell? w _ hx301_0)).trans hx301_0
                                            replace p301 := eq_true p301
                                            replace q301 := eq_true q301
                                            go_wp2_with (first | ((with_reducible refine gate_callee (f := 17) rfl ?_); refine goesL_ (some 76) rfl rfl Try.func17 (by kernel_rfl) rfl #[.int .i64 (rd l0 (ji32))] rfl (by (try simp only [List.map_toArray, List.map_cons, List.map_nil]); first | done | (simp only [hji32]; rfl) | rfl | (simp only [List.length_drop, List.length_take]; rfl)) ?_; (with_reducible refine (serifref12_Look.calls (rd l0 (ji32)) t302 t303 t304 _ A35.out).mono ?_); rintro e w39 ⟨rfl, hb⟩; refine ⟨_, rfl, ?_⟩; have n0_ := Aside0.mk (below_step (by repeat (first | (with_reducible first | exact HB.out | apply below_alloc | apply pw_below_drewN | apply below_drew1) | exact HB.out)) hb); clear HB; have HB := n0_; clear n0_; (try clear hb); (try clear hb2); (try clear hk); (try clear hi)))
                                            go_meet
                                            case rel => exact ⟨_, (false), (by first | rfl | (simp; done) | (simp [*]; done)), H', ⟨by have := HK1.out; have := HJ7.out; have := HJ16.out; have := HJ19.out; have := HJ23.out; first | omega | exact Nat.le_refl _⟩, ⟨by repeat (first | (with_reducible first | exact HB.out | apply below_alloc | apply pw_below_drewN | apply below_drew1) | exact HB.out)⟩⟩
                                        · rw [if_neg c34] at H
                                          exact absurd H (by simp)
                                      · rw [if_neg c33] at H
                                        exact absurd H (by simp)
                                    case rest => as_aux_lemma =>
                                      clear HC31
                                      try clear c1
                                      try clear c2
                                      try clear p2
                                      try clear c3
                                      try clear c3b0
                                      try clear c3b1
                                      try clear p3
                                      try clear q3
                                      try clear hx3
                                      try clear c5
                                      try clear p6
                                      try clear c7
                                      try clear c9
                                      try clear c9b0
                                      try clear c10
                                      try clear c12
                                      try clear c12b0
                                      try clear c12b1
                                      try clear c17
                                      try clear c18
                                      try clear c18b0
                                      try clear c18b1
                                      try clear c19
                                      try clear c21
                                      try clear c21b0
                                      try clear c21b1
                                      try clear c22
                                      try clear c23
                                      try clear c23b0
                                      try clear c23b1
                                      try clear c25
                                      try clear c25b0
                                      try clear c25b1
                                      try clear c26
                                      try clear c26b0
                                      try clear c26b1
                                      try clear c27
                                      try clear c27b0
                                      try clear c27b1
                                      try clear c28
                                      try clear c28b0
                                      try clear c28b1
                                      try clear c29
                                      try clear c30
                                      try clear c30b0
                                      try clear c30b1
                                      try clear p30
                                      try clear q30
                                      try clear hx30
                                      try clear c33
                                      try clear c33b0
                                      try clear c34
                                      try clear c34b0
                                      try clear c36
                                      try clear c36b0
                                      try clear c36b1
                                      try clear hx301_0
                                      try clear p2
                                      try clear p301
                                      try clear p6
                                      try clear q301
                                      obtain ⟨kq, x83_30, rfl, HA, HJ30, HB⟩ := hcut
                                      cases kq with
                                      | zero => exact absurd HA.out (by simp [serifref18_Behind.j5])
                                      | succ kj30 =>
                                        have H := HA.out
                                        clear HA
                                        simp only [serifref18_Behind.j5] at H
                                        by_cases c40 : x83_30 = true
                                        · subst c40
                                          have H1 : (some 0) = some r := by rw [if_pos rfl] at H; exact H
                                          clear H
                                          have H := H1
                                          clear H1
                                          obtain rfl := Option.some.inj H
                                          go_wp2
                                          go_ret
                                          exact ⟨by first | rfl | (simp [errW_none, errW_some] <;> rfl) | (simp [*, errW_none, errW_some] <;> rfl), by repeat (first | (with_reducible first | exact HB.out | apply below_alloc | apply pw_below_drewN | apply below_drew1) | exact HB.out)⟩
                                        · replace c40 := Bool.eq_false_iff.mpr c40
                                          subst c40
                                          have H1 : (if t297 = 7 then (serifref18_Behind.j6 kj30 t297 t298 x7_1 true) else (if t298 = 7 then (serifref18_Behind.j6 kj30 t297 t298 x7_1 true) else (if t297 = 6 then (serifref18_Behind.j6 kj30 t297 t298 x7_1 true) else (if t298 = 6 then (if t297 = 4 then (serifref18_Behind.j6 kj30 t297 t298 x7_1 false) else (if t297 = 9 then (serifref18_Behind.j6 kj30 t297 t298 x7_1 false) else (serifref18_Behind.j6 kj30 t297 t298 x7_1 (t297 != 10)))) else (serifref18_Behind.j6 kj30 t297 t298 x7_1 false))))) = some r := by rw [if_neg (show ¬ (false = true) by decide)] at H; exact H
                                          clear H
                                          have H := H1
                                          clear H1
                                          have HC41 := Aside0.mk H
                                          clear H
                                          go_upto_region 22 with (fail)
                                          go_cut [109] (fun v109 wc => ∃ (kq : Nat) (x109_40 : Bool), v109 = .bool x109_40 ∧ Aside0 (serifref18_Behind.j6 kq t297 t298 x7_1 x109_40 = some r) ∧ Aside0 (kq ≤ kj30) ∧ Aside0 (Below w.heap.size w wc))
                                          case first => as_aux_lemma =>
                                            have H := HC41.out
                                            clear HC41
                                            by_cases c42 : t297 = 7
                                            · rw [if_pos c42] at H
                                              have c42b0 : (t297 == 7) = true := beq_iff_eq.mpr c42
                                              have c42b1 : (t297 != 7) = false := bne_eq_false_iff_eq.mpr c42
                                              clear c42
                                              (first | rw [c42b0] | (simp only [i64_w, i32_w]; rw [c42b0]) | skip)
                                              have H' := Aside0.mk H
                                              clear H
                                              go_wp2
                                              go_meet
                                              case rel => exact ⟨_, (true), (by first | rfl | (simp; done) | (simp [*]; done)), H', ⟨by have := HK1.out; have := HJ7.out; have := HJ16.out; have := HJ19.out; have := HJ23.out; have := HJ30.out; first | omega | exact Nat.le_refl _⟩, ⟨by repeat (first | (with_reducible first | exact HB.out | apply below_alloc | apply pw_below_drewN | apply below_drew1) | exact HB.out)⟩⟩
                                            · rw [if_neg c42] at H
                                              have c42b0 : (t297 == 7) = false := beq_eq_false_iff_ne.mpr c42
                                              have c42b1 : (t297 != 7) = true := bne_iff_ne.mpr c42
                                              (first | rw [c42b0] | (simp only [i64_w, i32_w]; rw [c42b0]) | skip)
                                              by_cases c43 : t298 = 7
                                              · rw [if_pos c43] at H
                                                have c43b0 : (t298 == 7) = true := beq_iff_eq.mpr c43
                                                have c43b1 : (t298 != 7) = false := bne_eq_false_iff_eq.mpr c43
                                                clear c43
                                                have H' := Aside0.mk H
                                                clear H
                                                go_wp2
                                                go_meet
                                                case rel => exact ⟨_, (true), (by first | rfl | (simp; done) | (simp [*]; done)), H', ⟨by have := HK1.out; have := HJ7.out; have := HJ16.out; have := HJ19.out; have := HJ23.out; have := HJ30.out; first | omega | exact Nat.le_refl _⟩, ⟨by repeat (first | (with_reducible first | exact HB.out | apply below_alloc | apply pw_below_drewN | apply below_drew1) | exact HB.out)⟩⟩
                                              · rw [if_neg c43] at H
                                                have c43b0 : (t298 == 7) = false := beq_eq_false_iff_ne.mpr c43
                                                have c43b1 : (t298 != 7) = true := bne_iff_ne.mpr c43
                                                by_cases c44 : t297 = 6
                                                · rw [if_pos c44] at H
                                                  have c44b0 : (t297 == 6) = true := beq_iff_eq.mpr c44
                                                  have c44b1 : (t297 != 6) = false := bne_eq_false_iff_eq.mpr c44
                                                  clear c44
                                                  have H' := Aside0.mk H
                                                  clear H
                                                  go_wp2
                                                  go_meet
                                                  case rel => exact ⟨_, (true), (by first | rfl | (simp; done) | (simp [*]; done)), H', ⟨by have := HK1.out; have := HJ7.out; have := HJ16.out; have := HJ19.out; have := HJ23.out; have := HJ30.out; first | omega | exact Nat.le_refl _⟩, ⟨by repeat (first | (with_reducible first | exact HB.out | apply below_alloc | apply pw_below_drewN | apply below_drew1) | exact HB.out)⟩⟩
                                                · rw [if_neg c44] at H
                                                  have c44b0 : (t297 == 6) = false := beq_eq_false_iff_ne.mpr c44
                                                  have c44b1 : (t297 != 6) = true := bne_iff_ne.mpr c44
                                                  by_cases c45 : t298 = 6
                                                  · rw [if_pos c45] at H
                                                    have c45b0 : (t298 == 6) = true := beq_iff_eq.mpr c45
                                                    have c45b1 : (t298 != 6) = false := bne_eq_false_iff_eq.mpr c45
                                                    clear c45
                                                    by_cases c46 : t297 = 4
                                                    · rw [if_pos c46] at H
                                                      have c46b0 : (t297 == 4) = true := beq_iff_eq.mpr c46
                                                      have c46b1 : (t297 != 4) = false := bne_eq_false_iff_eq.mpr c46
                                                      clear c46
                                                      have H' := Aside0.mk H
                                                      clear H
                                                      go_wp2
                                                      go_meet
                                                      case rel => exact ⟨_, (false), (by first | rfl | (simp; done) | (simp [*]; done)), H', ⟨by have := HK1.out; have := HJ7.out; have := HJ16.out; have := HJ19.out; have := HJ23.out; have := HJ30.out; first | omega | exact Nat.le_refl _⟩, ⟨by repeat (first | (with_reducible first | exact HB.out | apply below_alloc | apply pw_below_drewN | apply below_drew1) | exact HB.out)⟩⟩
                                                    · rw [if_neg c46] at H
                                                      have c46b0 : (t297 == 4) = false := beq_eq_false_iff_ne.mpr c46
                                                      have c46b1 : (t297 != 4) = true := bne_iff_ne.mpr c46
                                                      by_cases c47 : t297 = 9
                                                      · rw [if_pos c47] at H
                                                        have c47b0 : (t297 == 9) = true := beq_iff_eq.mpr c47
                                                        have c47b1 : (t297 != 9) = false := bne_eq_false_iff_eq.mpr c47
                                                        clear c47
                                                        have H' := Aside0.mk H
                                                        clear H
                                                        go_wp2
                                                        go_meet
                                                        case rel => exact ⟨_, (false), (by first | rfl | (simp; done) | (simp [*]; done)), H', ⟨by have := HK1.out; have := HJ7.out; have := HJ16.out; have := HJ19.out; have := HJ23.out; have := HJ30.out; first | omega | exact Nat.le_refl _⟩, ⟨by repeat (first | (with_reducible first | exact HB.out | apply below_alloc | apply pw_below_drewN | apply below_drew1) | exact HB.out)⟩⟩
                                                      · rw [if_neg c47] at H
                                                        have c47b0 : (t297 == 9) = false := beq_eq_false_iff_ne.mpr c47
                                                        have c47b1 : (t297 != 9) = true := bne_iff_ne.mpr c47
                                                        have H' := Aside0.mk H
                                                        clear H
                                                        go_wp2
                                                        go_meet
                                                        case rel => exact ⟨_, ((t297 != 10)), (by first | rfl | (simp; done) | (simp [*]; done)), H', ⟨by have := HK1.out; have := HJ7.out; have := HJ16.out; have := HJ19.out; have := HJ23.out; have := HJ30.out; first | omega | exact Nat.le_refl _⟩, ⟨by repeat (first | (with_reducible first | exact HB.out | apply below_alloc | apply pw_below_drewN | apply below_drew1) | exact HB.out)⟩⟩
                                                  · rw [if_neg c45] at H
                                                    have c45b0 : (t298 == 6) = false := beq_eq_false_iff_ne.mpr c45
                                                    have c45b1 : (t298 != 6) = true := bne_iff_ne.mpr c45
                                                    have H' := Aside0.mk H
                                                    clear H
                                                    go_wp2
                                                    go_meet
                                                    case rel => exact ⟨_, (false), (by first | rfl | (simp; done) | (simp [*]; done)), H', ⟨by have := HK1.out; have := HJ7.out; have := HJ16.out; have := HJ19.out; have := HJ23.out; have := HJ30.out; first | omega | exact Nat.le_refl _⟩, ⟨by repeat (first | (with_reducible first | exact HB.out | apply below_alloc | apply pw_below_drewN | apply below_drew1) | exact HB.out)⟩⟩
                                          case rest => as_aux_lemma =>
                                            clear HC41
                                            try clear c1
                                            try clear c2
                                            try clear p2
                                            try clear c3
                                            try clear c3b0
                                            try clear c3b1
                                            try clear p3
                                            try clear q3
                                            try clear hx3
                                            try clear c4
                                            try clear c5
                                            try clear p6
                                            try clear c7
                                            try clear c9
                                            try clear c9b0
                                            try clear c10
                                            try clear c12
                                            try clear c12b0
                                            try clear c12b1
                                            try clear c17
                                            try clear c18
                                            try clear c18b0
                                            try clear c18b1
                                            try clear c19
                                            try clear c21
                                            try clear c21b0
                                            try clear c21b1
                                            try clear c22
                                            try clear c23
                                            try clear c23b0
                                            try clear c23b1
                                            try clear c25
                                            try clear c25b0
                                            try clear c25b1
                                            try clear c26
                                            try clear c26b0
                                            try clear c26b1
                                            try clear c27
                                            try clear c27b0
                                            try clear c27b1
                                            try clear c28
                                            try clear c28b0
                                            try clear c28b1
                                            try clear c29
                                            try clear c30
                                            try clear c30b0
                                            try clear c30b1
                                            try clear p30
                                            try clear q30
                                            try clear hx30
                                            try clear c33
                                            try clear c33b0
                                            try clear c34
                                            try clear c34b0
                                            try clear c36
                                            try clear c36b0
                                            try clear c36b1
                                            try clear c40
                                            try clear c42
                                            try clear c42b0
                                            try clear c42b1
                                            try clear c43
                                            try clear c43b0
                                            try clear c43b1
                                            try clear c44
                                            try clear c44b0
                                            try clear c44b1
                                            try clear c45
                                            try clear c45b0
                                            try clear c45b1
                                            try clear c46
                                            try clear c46b0
                                            try clear c46b1
                                            try clear c47
                                            try clear c47b0
                                            try clear c47b1
                                            try clear hx301_0
                                            try clear p2
                                            try clear p3
                                            try clear p30
                                            try clear p301
                                            try clear p6
                                            try clear q3
                                            try clear q30
                                            try clear q301
                                            obtain ⟨kq, x109_40, rfl, HA, HJ40, HB⟩ := hcut
                                            cases kq with
                                            | zero => exact absurd HA.out (by simp [serifref18_Behind.j6])
                                            | succ kj40 =>
                                              have H := HA.out
                                              clear HA
                                              simp only [serifref18_Behind.j6] at H
                                              by_cases c48 : x109_40 = true
                                              · subst c48
                                                have H1 : (some 0) = some r := by rw [if_pos rfl] at H; exact H
                                                clear H
                                                have H := H1
                                                clear H1
                                                obtain rfl := Option.some.inj H
                                                go_wp2
                                                go_ret
                                                exact ⟨by first | rfl | (simp [errW_none, errW_some] <;> rfl) | (simp [*, errW_none, errW_some] <;> rfl), by repeat (first | (with_reducible first | exact HB.out | apply below_alloc | apply pw_below_drewN | apply below_drew1) | exact HB.out)⟩
                                              · replace c48 := Bool.eq_false_iff.mpr c48
                                                subst c48
                                                have H1 : (if t298 = 12 then (serifref18_Behind.j7 kj40 t297 t298 true) else (if t298 = 14 then (serifref18_Behind.j7 kj40 t297 t298 true) else (if t298 = 15 then (serifref18_Behind.j7 kj40 t297 t298 true) else (if t298 = 16 then (serifref18_Behind.j7 kj40 t297 t298 true) else (if x7_1 = 11 then (serifref18_Behind.j7 kj40 t297 t298 true) else (if x7_1 = 13 then (serifref18_Behind.j7 kj40 t297 t298 (t298 == 11)) else (serifref18_Behind.j7 kj40 t297 t298 false))))))) = some r := by rw [if_neg (show ¬ (false = true) by decide)] at H; exact H
                                                clear H
                                                have H := H1
                                                clear H1
                                                have HC49 := Aside0.mk H
                                                clear H
                                                go_upto_region 24 with (fail)
                                                go_cut [135] (fun v135 wc => ∃ (kq : Nat) (x135_48 : Bool), v135 = .bool x135_48 ∧ Aside0 (serifref18_Behind.j7 kq t297 t298 x135_48 = some r) ∧ Aside0 (kq ≤ kj40) ∧ Aside0 (Below w.heap.size w wc))
                                                case first => as_aux_lemma =>
                                                  have H := HC49.out
                                                  clear HC49
                                                  by_cases c50 : t298 = 12
                                                  · rw [if_pos c50] at H
                                                    have c50b0 : (t298 == 12) = true := beq_iff_eq.mpr c50
                                                    have c50b1 : (t298 != 12) = false := bne_eq_false_iff_eq.mpr c50
                                                    clear c50
                                                    (first | rw [c50b0] | (simp only [i64_w, i32_w]; rw [c50b0]) | skip)
                                                    have H' := Aside0.mk H
                                                    clear H
                                                    go_wp2
                                                    go_meet
                                                    case rel => exact ⟨_, (true), (by first | rfl | (simp; done) | (simp [*]; done)), H', ⟨by have := HK1.out; have := HJ7.out; have := HJ16.out; have := HJ19.out; have := HJ23.out; have := HJ30.out; have := HJ40.out; first | omega | exact Nat.le_refl _⟩, ⟨by repeat (first | (with_reducible first | exact HB.out | apply below_alloc | apply pw_below_drewN | apply below_drew1) | exact HB.out)⟩⟩
                                                  · rw [if_neg c50] at H
                                                    have c50b0 : (t298 == 12) = false := beq_eq_false_iff_ne.mpr c50
                                                    have c50b1 : (t298 != 12) = true := bne_iff_ne.mpr c50
                                                    (first | rw [c50b0] | (simp only [i64_w, i32_w]; rw [c50b0]) | skip)
                                                    by_cases c51 : t298 = 14
                                                    · rw [if_pos c51] at H
                                                      have c51b0 : (t298 == 14) = true := beq_iff_eq.mpr c51
                                                      have c51b1 : (t298 != 14) = false := bne_eq_false_iff_eq.mpr c51
                                                      clear c51
                                                      have H' := Aside0.mk H
                                                      clear H
                                                      go_wp2
                                                      go_meet
                                                      case rel => exact ⟨_, (true), (by first | rfl | (simp; done) | (simp [*]; done)), H', ⟨by have := HK1.out; have := HJ7.out; have := HJ16.out; have := HJ19.out; have := HJ23.out; have := HJ30.out; have := HJ40.out; first | omega | exact Nat.le_refl _⟩, ⟨by repeat (first | (with_reducible first | exact HB.out | apply below_alloc | apply pw_below_drewN | apply below_drew1) | exact HB.out)⟩⟩
                                                    · rw [if_neg c51] at H
                                                      have c51b0 : (t298 == 14) = false := beq_eq_false_iff_ne.mpr c51
                                                      have c51b1 : (t298 != 14) = true := bne_iff_ne.mpr c51
                                                      by_cases c52 : t298 = 15
                                                      · rw [if_pos c52] at H
                                                        have c52b0 : (t298 == 15) = true := beq_iff_eq.mpr c52
                                                        have c52b1 : (t298 != 15) = false := bne_eq_false_iff_eq.mpr c52
                                                        clear c52
                                                        have H' := Aside0.mk H
                                                        clear H
                                                        go_wp2
                                                        go_meet
                                                        case rel => exact ⟨_, (true), (by first | rfl | (simp; done) | (simp [*]; done)), H', ⟨by have := HK1.out; have := HJ7.out; have := HJ16.out; have := HJ19.out; have := HJ23.out; have := HJ30.out; have := HJ40.out; first | omega | exact Nat.le_refl _⟩, ⟨by repeat (first | (with_reducible first | exact HB.out | apply below_alloc | apply pw_below_drewN | apply below_drew1) | exact HB.out)⟩⟩
                                                      · rw [if_neg c52] at H
                                                        have c52b0 : (t298 == 15) = false := beq_eq_false_iff_ne.mpr c52
                                                        have c52b1 : (t298 != 15) = true := bne_iff_ne.mpr c52
                                                        by_cases c53 : t298 = 16
                                                        · rw [if_pos c53] at H
                                                          have c53b0 : (t298 == 16) = true := beq_iff_eq.mpr c53
                                                          have c53b1 : (t298 != 16) = false := bne_eq_false_iff_eq.mpr c53
                                                          clear c53
                                                          have H' := Aside0.mk H
                                                          clear H
                                                          go_wp2
                                                          go_meet
                                                          case rel => exact ⟨_, (true), (by first | rfl | (simp; done) | (simp [*]; done)), H', ⟨by have := HK1.out; have := HJ7.out; have := HJ16.out; have := HJ19.out; have := HJ23.out; have := HJ30.out; have := HJ40.out; first | omega | exact Nat.le_refl _⟩, ⟨by repeat (first | (with_reducible first | exact HB.out | apply below_alloc | apply pw_below_drewN | apply below_drew1) | exact HB.out)⟩⟩
                                                        · rw [if_neg c53] at H
                                                          have c53b0 : (t298 == 16) = false := beq_eq_false_iff_ne.mpr c53
                                                          have c53b1 : (t298 != 16) = true := bne_iff_ne.mpr c53
                                                          by_cases c54 : x7_1 = 11
                                                          · rw [if_pos c54] at H
                                                            have c54b0 : (x7_1 == 11) = true := beq_iff_eq.mpr c54
                                                            have c54b1 : (x7_1 != 11) = false := bne_eq_false_iff_eq.mpr c54
                                                            clear c54
                                                            have H' := Aside0.mk H
                                                            clear H
                                                            go_wp2
                                                            go_meet
                                                            case rel => exact ⟨_, (true), (by first | rfl | (simp; done) | (simp [*]; done)), H', ⟨by have := HK1.out; have := HJ7.out; have := HJ16.out; have := HJ19.out; have := HJ23.out; have := HJ30.out; have := HJ40.out; first | omega | exact Nat.le_refl _⟩, ⟨by repeat (first | (with_reducible first | exact HB.out | apply below_alloc | apply pw_below_drewN | apply below_drew1) | exact HB.out)⟩⟩
                                                          · rw [if_neg c54] at H
                                                            have c54b0 : (x7_1 == 11) = false := beq_eq_false_iff_ne.mpr c54
                                                            have c54b1 : (x7_1 != 11) = true := bne_iff_ne.mpr c54
                                                            by_cases c55 : x7_1 = 13
                                                            · rw [if_pos c55] at H
                                                              have c55b0 : (x7_1 == 13) = true := beq_iff_eq.mpr c55
                                                              have c55b1 : (x7_1 != 13) = false := bne_eq_false_iff_eq.mpr c55
                                                              clear c55
                                                              have H' := Aside0.mk H
                                                              clear H
                                                              go_wp2
                                                              go_meet
                                                              case rel => exact ⟨_, ((t298 == 11)), (by first | rfl | (simp; done) | (simp [*]; done)), H', ⟨by have := HK1.out; have := HJ7.out; have := HJ16.out; have := HJ19.out; have := HJ23.out; have := HJ30.out; have := HJ40.out; first | omega | exact Nat.le_refl _⟩, ⟨by repeat (first | (with_reducible first | exact HB.out | apply below_alloc | apply pw_below_drewN | apply below_drew1) | exact HB.out)⟩⟩
                                                            · rw [if_neg c55] at H
                                                              have c55b0 : (x7_1 == 13) = false := beq_eq_false_iff_ne.mpr c55
                                                              have c55b1 : (x7_1 != 13) = true := bne_iff_ne.mpr c55
                                                              have H' := Aside0.mk H
                                                              clear H
                                                              go_wp2
                                                              go_meet
                                                              case rel => exact ⟨_, (false), (by first | rfl | (simp; done) | (simp [*]; done)), H', ⟨by have := HK1.out; have := HJ7.out; have := HJ16.out; have := HJ19.out; have := HJ23.out; have := HJ30.out; have := HJ40.out; first | omega | exact Nat.le_refl _⟩, ⟨by repeat (first | (with_reducible first | exact HB.out | apply below_alloc | apply pw_below_drewN | apply below_drew1) | exact HB.out)⟩⟩
                                                case rest => as_aux_lemma =>
                                                  clear HC49
                                                  try clear c1
                                                  try clear c2
                                                  try clear p2
                                                  try clear c3
                                                  try clear c3b0
                                                  try clear c3b1
                                                  try clear p3
                                                  try clear q3
                                                  try clear hx3
                                                  try clear c4
                                                  try clear c5
                                                  try clear p6
                                                  try clear c7
                                                  try clear c9
                                                  try clear c9b0
                                                  try clear c10
                                                  try clear c12
                                                  try clear c12b0
                                                  try clear c12b1
                                                  try clear c17
                                                  try clear c18
                                                  try clear c18b0
                                                  try clear c18b1
                                                  try clear c19
                                                  try clear c21
                                                  try clear c21b0
                                                  try clear c21b1
                                                  try clear c22
                                                  try clear c23
                                                  try clear c23b0
                                                  try clear c23b1
                                                  try clear c25
                                                  try clear c25b0
                                                  try clear c25b1
                                                  try clear c26
                                                  try clear c26b0
                                                  try clear c26b1
                                                  try clear c27
                                                  try clear c27b0
                                                  try clear c27b1
                                                  try clear c28
                                                  try clear c28b0
                                                  try clear c28b1
                                                  try clear c29
                                                  try clear c30
                                                  try clear c30b0
                                                  try clear c30b1
                                                  try clear p30
                                                  try clear q30
                                                  try clear hx30
                                                  try clear c33
                                                  try clear c33b0
                                                  try clear c34
                                                  try clear c34b0
                                                  try clear c36
                                                  try clear c36b0
                                                  try clear c36b1
                                                  try clear c40
                                                  try clear c42
                                                  try clear c42b0
                                                  try clear c42b1
                                                  try clear c43
                                                  try clear c43b0
                                                  try clear c43b1
                                                  try clear c44
                                                  try clear c44b0
                                                  try clear c44b1
                                                  try clear c45
                                                  try clear c45b0
                                                  try clear c45b1
                                                  try clear c46
                                                  try clear c46b0
                                                  try clear c46b1
                                                  try clear c47
                                                  try clear c47b0
                                                  try clear c47b1
                                                  try clear c48
                                                  try clear c50
                                                  try clear c50b0
                                                  try clear c50b1
                                                  try clear c51
                                                  try clear c51b0
                                                  try clear c51b1
                                                  try clear c52
                                                  try clear c52b0
                                                  try clear c52b1
                                                  try clear c53
                                                  try clear c53b0
                                                  try clear c53b1
                                                  try clear c54
                                                  try clear c54b0
                                                  try clear c54b1
                                                  try clear c55
                                                  try clear c55b0
                                                  try clear c55b1
                                                  try clear hx301_0
                                                  try clear p2
                                                  try clear p3
                                                  try clear p30
                                                  try clear p301
                                                  try clear p6
                                                  try clear q3
                                                  try clear q30
                                                  try clear q301
                                                  obtain ⟨kq, x135_48, rfl, HA, HJ48, HB⟩ := hcut
                                                  cases kq with
                                                  | zero => exact absurd HA.out (by simp [serifref18_Behind.j7])
                                                  | succ kj48 =>
                                                    have H := HA.out
                                                    clear HA
                                                    simp only [serifref18_Behind.j7] at H
                                                    by_cases c56 : x135_48 = true
                                                    · subst c56
                                                      have H1 : (some 0) = some r := by rw [if_pos rfl] at H; exact H
                                                      clear H
                                                      have H := H1
                                                      clear H1
                                                      obtain rfl := Option.some.inj H
                                                      go_wp2
                                                      go_ret
                                                      exact ⟨by first | rfl | (simp [errW_none, errW_some] <;> rfl) | (simp [*, errW_none, errW_some] <;> rfl), by repeat (first | (with_reducible first | exact HB.out | apply below_alloc | apply pw_below_drewN | apply below_drew1) | exact HB.out)⟩
                                                    · replace c56 := Bool.eq_false_iff.mpr c56
                                                      subst c56
                                                      have H1 : (if t297 = 4 then (some 1) else (if t297 = 13 then (some 0) else (if t298 = 13 then (some 0) else (if t298 = 9 then (some 0) else (if t298 = 10 then (some 0) else ((serifref18_pair.f kj48 t297 t298).bind fun t306 => (if t306 = true then (some 0) else (some 1)))))))) = some r := by rw [if_neg (show ¬ (false = true) by decide)] at H; exact H
                                                      clear H
                                                      have H := H1
                                                      clear H1
                                                      by_cases c57 : t297 = 4
                                                      · rw [if_pos c57] at H
                                                        have c57b0 : (t297 == 4) = true := beq_iff_eq.mpr c57
                                                        have c57b1 : (t297 != 4) = false := bne_eq_false_iff_eq.mpr c57
                                                        clear c57
                                                        obtain rfl := Option.some.inj H
                                                        go_wp2
                                                        go_ret
                                                        exact ⟨by first | rfl | (simp [errW_none, errW_some] <;> rfl) | (simp [*, errW_none, errW_some] <;> rfl), by repeat (first | (with_reducible first | exact HB.out | apply below_alloc | apply pw_below_drewN | apply below_drew1) | exact HB.out)⟩
                                                      · rw [if_neg c57] at H
                                                        have c57b0 : (t297 == 4) = false := beq_eq_false_iff_ne.mpr c57
                                                        have c57b1 : (t297 != 4) = true := bne_iff_ne.mpr c57
                                                        by_cases c58 : t297 = 13
                                                        · rw [if_pos c58] at H
                                                          have c58b0 : (t297 == 13) = true := beq_iff_eq.mpr c58
                                                          have c58b1 : (t297 != 13) = false := bne_eq_false_iff_eq.mpr c58
                                                          clear c58
                                                          obtain rfl := Option.some.inj H
                                                          go_wp2
                                                          go_ret
                                                          exact ⟨by first | rfl | (simp [errW_none, errW_some] <;> rfl) | (simp [*, errW_none, errW_some] <;> rfl), by repeat (first | (with_reducible first | exact HB.out | apply below_alloc | apply pw_below_drewN | apply below_drew1) | exact HB.out)⟩
                                                        · rw [if_neg c58] at H
                                                          have c58b0 : (t297 == 13) = false := beq_eq_false_iff_ne.mpr c58
                                                          have c58b1 : (t297 != 13) = true := bne_iff_ne.mpr c58
                                                          by_cases c59 : t298 = 13
                                                          · rw [if_pos c59] at H
                                                            have c59b0 : (t298 == 13) = true := beq_iff_eq.mpr c59
                                                            have c59b1 : (t298 != 13) = false := bne_eq_false_iff_eq.mpr c59
                                                            clear c59
                                                            obtain rfl := Option.some.inj H
                                                            go_wp2
                                                            go_ret
                                                            exact ⟨by first | rfl | (simp [errW_none, errW_some] <;> rfl) | (simp [*, errW_none, errW_some] <;> rfl), by repeat (first | (with_reducible first | exact HB.out | apply below_alloc | apply pw_below_drewN | apply below_drew1) | exact HB.out)⟩
                                                          · rw [if_neg c59] at H
                                                            have c59b0 : (t298 == 13) = false := beq_eq_false_iff_ne.mpr c59
                                                            have c59b1 : (t298 != 13) = true := bne_iff_ne.mpr c59
                                                            by_cases c60 : t298 = 9
                                                            · rw [if_pos c60] at H
                                                              have c60b0 : (t298 == 9) = true := beq_iff_eq.mpr c60
                                                              have c60b1 : (t298 != 9) = false := bne_eq_false_iff_eq.mpr c60
                                                              clear c60
                                                              obtain rfl := Option.some.inj H
                                                              go_wp2
                                                              go_ret
                                                              exact ⟨by first | rfl | (simp [errW_none, errW_some] <;> rfl) | (simp [*, errW_none, errW_some] <;> rfl), by repeat (first | (with_reducible first | exact HB.out | apply below_alloc | apply pw_below_drewN | apply below_drew1) | exact HB.out)⟩
                                                            · rw [if_neg c60] at H
                                                              have c60b0 : (t298 == 9) = false := beq_eq_false_iff_ne.mpr c60
                                                              have c60b1 : (t298 != 9) = true := bne_iff_ne.mpr c60
                                                              by_cases c61 : t298 = 10
                                                              · rw [if_pos c61] at H
                                                                have c61b0 : (t298 == 10) = true := beq_iff_eq.mpr c61
                                                                have c61b1 : (t298 != 10) = false := bne_eq_false_iff_eq.mpr c61
                                                                clear c61
                                                                obtain rfl := Option.some.inj H
                                                                go_wp2
                                                                go_ret
                                                                exact ⟨by first | rfl | (simp [errW_none, errW_some] <;> rfl) | (simp [*, errW_none, errW_some] <;> rfl), by repeat (first | (with_reducible first | exact HB.out | apply below_alloc | apply pw_below_drewN | apply below_drew1) | exact HB.out)⟩
                                                              · rw [if_neg c61] at H
                                                                have c61b0 : (t298 == 10) = false := beq_eq_false_iff_ne.mpr c61
                                                                have c61b1 : (t298 != 10) = true := bne_iff_ne.mpr c61
                                                                replace H := Option.bind_eq_some_iff.mp H
                                                                obtain ⟨t306, A620, H⟩ := H
                                                                replace H : (if t306 = true then (some 0) else (some 1)) = some r := H
                                                                have A62 := Aside0.mk A620
                                                                clear A620
                                                                by_cases c63 : t306 = true
                                                                · subst c63
                                                                  have H1 : (some 0) = some r := by rw [if_pos rfl] at H; exact H
                                                                  clear H
                                                                  have H := H1
                                                                  clear H1
                                                                  obtain rfl := Option.some.inj H
                                                                  go_wp2_with (first | (go_at_call 72; (with_reducible refine (serifref18_pair.calls kj48 t297 t298 true _ A62.out).mono ?_); rintro e w' ⟨rfl, ⟨nd, rfl⟩⟩) | (go_at_call 72; (with_reducible refine (serifref18_pair.calls kj48 t297 t298 true _ A62.out).mono ?_); rintro e w' ⟨rfl, ⟨nd, rfl⟩⟩))
                                                                  go_ret
                                                                  exact ⟨by first | rfl | (simp [errW_none, errW_some] <;> rfl) | (simp [*, errW_none, errW_some] <;> rfl), by repeat (first | (with_reducible first | exact HB.out | apply below_alloc | apply pw_below_drewN | apply below_drew1) | exact HB.out)⟩
                                                                · replace c63 := Bool.eq_false_iff.mpr c63
                                                                  subst c63
                                                                  have H1 : (some 1) = some r := by rw [if_neg (show ¬ (false = true) by decide)] at H; exact H
                                                                  clear H
                                                                  have H := H1
                                                                  clear H1
                                                                  obtain rfl := Option.some.inj H
                                                                  go_wp2_with (first | (go_at_call 72; (with_reducible refine (serifref18_pair.calls kj48 t297 t298 false _ A62.out).mono ?_); rintro e w' ⟨rfl, ⟨nd, rfl⟩⟩) | (go_at_call 72; (with_reducible refine (serifref18_pair.calls kj48 t297 t298 false _ A62.out).mono ?_); rintro e w' ⟨rfl, ⟨nd, rfl⟩⟩))
                                                                  go_ret
                                                                  exact ⟨by first | rfl | (simp [errW_none, errW_some] <;> rfl) | (simp [*, errW_none, errW_some] <;> rfl), by repeat (first | (with_reducible first | exact HB.out | apply below_alloc | apply pw_below_drewN | apply below_drew1) | exact HB.out)⟩

end Go.Proofs.Ytplnaannfnhhgab.P
