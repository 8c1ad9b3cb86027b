/- The plain functions of some Go functions and the proofs that the Go code comes to their answers: written by a program out of the translation. -/
import Derived.Test.YtplnaannfnhhgabEx0
import Derived.Test.YtplnaannfnhhgabEx1
import Derived.Test.YtplnaannfnhhgabEx3
import Derived.Test.YtplnaannfnhhgabClone
import Derived.Test.YtplnaannfnhhgabRep
import Derived.Test.YtplnaannfnhhgabOver
namespace Go.Proofs.Ytplnaannfnhhgab.E
open Go.RowKit Go.Proofs.YtplnaannfnhhgabW.PrintWords Go.Proofs.YtplnaannfnhhgabW.PrintLast Go.Proofs.YtplnaannfnhhgabW.PrintMore
attribute [local go_sem] max2_int min2_int max_two min_two max_three min_three max_four min_four   -- for this text's walks alone
open Go.Proofs.Ytplnaannfnhhgab.F
set_option linter.unusedVariables false
set_option linter.unusedSimpArgs false

/-! ### seriflaw22_BlendOvers: function 6 -/
mutual
def seriflaw22_BlendOvers.j0 : Nat → Bool → Int → Int → List Int → Int → Int → Int → Int → List Int → Int → Int → Int → Int → Int → List Int → Int → Int → Int → Int → List Int → Int → Int → List Int → Option (Bool)
  | 0, _, _, _, _, _, _, _, _, _, _, _, _, _, _, _, _, _, _, _, _, _, _, _ => none
  | k + 1, x56, x152000, x152001, x152002, x152003, x152004, x152005, x152006, x152007, x152008, x152009, x152010, x159000, x159001, x159002, x160000, x160001, x160002, x160003, x160004, x180000, x180001, x180002 => if x56 = true then (some false) else (seriflaw22_BlendOvers.l0 k (x180002.length : Int) 0 x152000 x152001 x152002 x152003 x152004 x152005 x152006 x152007 x152008 x152009 x152010 x159000 x159001 x159002 x160000 x160001 x160002 x160003 x160004 x180000 x180001 x180002)
def seriflaw22_BlendOvers.l0 : Nat → Int → Int → Int → Int → List Int → Int → Int → Int → Int → List Int → Int → Int → Int → Int → Int → List Int → Int → Int → Int → Int → List Int → Int → Int → List Int → Option (Bool)
  | 0, _, _, _, _, _, _, _, _, _, _, _, _, _, _, _, _, _, _, _, _, _, _, _, _ => none
  | k + 1, x59, x60, x152000, x152001, x152002, x152003, x152004, x152005, x152006, x152007, x152008, x152009, x152010, x159000, x159001, x159002, x160000, x160001, x160002, x160003, x160004, x180000, x180001, x180002 => if x60 < x59 then (if 0 ≤ x60 then (if x60 < (x180002.length : Int) then (seriflaw22_BlendOvers.l0 k x59 (wrap64 (x60 + 1)) x152000 x152001 x152002 x152003 x152004 x152005 x152006 x152007 x152008 x152009 x152010 x159000 x159001 x159002 x160000 x160001 x160002 x160003 x160004 x180000 x180001 (x180002.set (x60 : Int).toNat (Go.bits .xor .u8 (rd x180002 x60) 255))) else (none)) else (none)) else ((serifref22_Same.f x159000 x159001 x159002 x152000 x152001 x152002).bind fun t183 => (if t183 = true then (some ((strOfNums x160004).toList == (strOfNums x152007).toList)) else (some false)))
end
def seriflaw22_BlendOvers.f (k : Nat) (a0_0 : Int) (a0_1 : Int) (l0_2 : List Int) (a0_3 : Int) (a0_4 : Int) (a0_5 : Int) (a0_6 : Int) (l0_7 : List Int) (a0_8 : Int) (a0_9 : Int) (a0_10 : Int) : Option (Bool) := (seriflaw22_blendAlive.f).bind fun t152 => (if t152 = true then ((serifref22_Copy.f a0_0 a0_1 l0_2).bind fun bt153 => ((some (([] : List Int) : List Int)).bind fun y160 => (if y160.length + l0_7.length < 140737488355328 then ((some (y160 ++ l0_7 : List Int)).bind fun y163 => ((serifref22_Over.f k a0_0 a0_1 l0_2 a0_3 a0_4 a0_5 a0_6 l0_7 a0_8 a0_9 a0_10).bind fun bt166 => ((blend_Over.f k bt153.1 bt153.2.1 bt153.2.2 a0_3 a0_4 a0_5 a0_6 y163 a0_8 a0_9 a0_10).bind fun bt173 => (if bt173.2.2.2 = bt166.2.2.2 then ((serifref22_Same.f bt173.1 bt173.2.1 bt173.2.2.1 bt166.1 bt166.2.1 bt166.2.2.1).bind fun t180 => (seriflaw22_BlendOvers.j0 k (!t180) a0_0 a0_1 l0_2 a0_3 a0_4 a0_5 a0_6 l0_7 a0_8 a0_9 a0_10 bt153.1 bt153.2.1 bt153.2.2 a0_3 a0_4 a0_5 a0_6 y163 bt173.1 bt173.2.1 bt173.2.2.1)) else (seriflaw22_BlendOvers.j0 k true a0_0 a0_1 l0_2 a0_3 a0_4 a0_5 a0_6 l0_7 a0_8 a0_9 a0_10 bt153.1 bt153.2.1 bt153.2.2 a0_3 a0_4 a0_5 a0_6 y163 bt173.1 bt173.2.1 bt173.2.2.1))))) else (none)))) else (some false))
theorem seriflaw22_BlendOvers.mono_l : ∀ k, (∀ y0 y1 y2 y3 y4 y5 y6 y7 y8 y9 y10 y11 y12 y13 y14 y15 y16 y17 y18 y19 y20 y21 y22, LeO (seriflaw22_BlendOvers.j0 k y0 y1 y2 y3 y4 y5 y6 y7 y8 y9 y10 y11 y12 y13 y14 y15 y16 y17 y18 y19 y20 y21 y22) (seriflaw22_BlendOvers.j0 (k + 1) y0 y1 y2 y3 y4 y5 y6 y7 y8 y9 y10 y11 y12 y13 y14 y15 y16 y17 y18 y19 y20 y21 y22)) ∧ (∀ y0 y1 y2 y3 y4 y5 y6 y7 y8 y9 y10 y11 y12 y13 y14 y15 y16 y17 y18 y19 y20 y21 y22 y23, LeO (seriflaw22_BlendOvers.l0 k y0 y1 y2 y3 y4 y5 y6 y7 y8 y9 y10 y11 y12 y13 y14 y15 y16 y17 y18 y19 y20 y21 y22 y23) (seriflaw22_BlendOvers.l0 (k + 1) y0 y1 y2 y3 y4 y5 y6 y7 y8 y9 y10 y11 y12 y13 y14 y15 y16 y17 y18 y19 y20 y21 y22 y23))
  | 0 => ⟨fun _ _ _ _ _ _ _ _ _ _ _ _ _ _ _ _ _ _ _ _ _ _ _ r h => by simp [seriflaw22_BlendOvers.j0] at h, fun _ _ _ _ _ _ _ _ _ _ _ _ _ _ _ _ _ _ _ _ _ _ _ _ r h => by simp [seriflaw22_BlendOvers.l0] at h⟩
  | k + 1 => by
    obtain ⟨ih0, ih1⟩ := seriflaw22_BlendOvers.mono_l k
    refine ⟨?_, ?_⟩
    · intro y0 y1 y2 y3 y4 y5 y6 y7 y8 y9 y10 y11 y12 y13 y14 y15 y16 y17 y18 y19 y20 y21 y22
      unfold seriflaw22_BlendOvers.j0
      repeat' first
      | (with_reducible exact ih0 _ _ _ _ _ _ _ _ _ _ _ _ _ _ _ _ _ _ _ _ _ _ _)
      | (with_reducible exact ih1 _ _ _ _ _ _ _ _ _ _ _ _ _ _ _ _ _ _ _ _ _ _ _ _)
      | (with_reducible exact blend_Over.mono _ _ _ _ _ _ _ _ _ _ _ _)
      | (with_reducible exact serifref22_Over.mono _ _ _ _ _ _ _ _ _ _ _ _)
      | (with_reducible exact LeO.refl _)
      | (with_reducible exact LeO.none _)
      | (with_reducible refine LeO.ite ?_ ?_)
      | (with_reducible refine LeO.bind ?_ (fun _ => ?_))
      | exact ih0 _ _ _ _ _ _ _ _ _ _ _ _ _ _ _ _ _ _ _ _ _ _ _
      | exact ih1 _ _ _ _ _ _ _ _ _ _ _ _ _ _ _ _ _ _ _ _ _ _ _ _
      | exact blend_Over.mono _ _ _ _ _ _ _ _ _ _ _ _
      | exact serifref22_Over.mono _ _ _ _ _ _ _ _ _ _ _ _
      | exact LeO.none _
      | refine LeO.ite ?_ ?_
      | refine LeO.bind ?_ (fun _ => ?_)
    · intro y0 y1 y2 y3 y4 y5 y6 y7 y8 y9 y10 y11 y12 y13 y14 y15 y16 y17 y18 y19 y20 y21 y22 y23
      unfold seriflaw22_BlendOvers.l0
      repeat' first
      | (with_reducible exact ih0 _ _ _ _ _ _ _ _ _ _ _ _ _ _ _ _ _ _ _ _ _ _ _)
      | (with_reducible exact ih1 _ _ _ _ _ _ _ _ _ _ _ _ _ _ _ _ _ _ _ _ _ _ _ _)
      | (with_reducible exact blend_Over.mono _ _ _ _ _ _ _ _ _ _ _ _)
      | (with_reducible exact serifref22_Over.mono _ _ _ _ _ _ _ _ _ _ _ _)
      | (with_reducible exact LeO.refl _)
      | (with_reducible exact LeO.none _)
      | (with_reducible refine LeO.ite ?_ ?_)
      | (with_reducible refine LeO.bind ?_ (fun _ => ?_))
      | exact ih0 _ _ _ _ _ _ _ _ _ _ _ _ _ _ _ _ _ _ _ _ _ _ _
      | exact ih1 _ _ _ _ _ _ _ _ _ _ _ _ _ _ _ _ _ _ _ _ _ _ _ _
      | exact blend_Over.mono _ _ _ _ _ _ _ _ _ _ _ _
      | exact serifref22_Over.mono _ _ _ _ _ _ _ _ _ _ _ _
      | exact LeO.none _
      | refine LeO.ite ?_ ?_
      | refine LeO.bind ?_ (fun _ => ?_)
theorem seriflaw22_BlendOvers.mono : ∀ a0 a1 a2 a3 a4 a5 a6 a7 a8 a9 a10 k, LeO (seriflaw22_BlendOvers.f k a0 a1 a2 a3 a4 a5 a6 a7 a8 a9 a10) (seriflaw22_BlendOvers.f (k + 1) a0 a1 a2 a3 a4 a5 a6 a7 a8 a9 a10) := by
  intro a0 a1 a2 a3 a4 a5 a6 a7 a8 a9 a10 k
  obtain ⟨ih0, ih1⟩ := seriflaw22_BlendOvers.mono_l k
  unfold seriflaw22_BlendOvers.f
  repeat' first
      | (with_reducible exact ih0 _ _ _ _ _ _ _ _ _ _ _ _ _ _ _ _ _ _ _ _ _ _ _)
      | (with_reducible exact ih1 _ _ _ _ _ _ _ _ _ _ _ _ _ _ _ _ _ _ _ _ _ _ _ _)
      | (with_reducible exact blend_Over.mono _ _ _ _ _ _ _ _ _ _ _ _)
      | (with_reducible exact serifref22_Over.mono _ _ _ _ _ _ _ _ _ _ _ _)
      | (with_reducible exact LeO.refl _)
      | (with_reducible exact LeO.none _)
      | (with_reducible refine LeO.ite ?_ ?_)
      | (with_reducible refine LeO.bind ?_ (fun _ => ?_))
      | exact ih0 _ _ _ _ _ _ _ _ _ _ _ _ _ _ _ _ _ _ _ _ _ _ _
      | exact ih1 _ _ _ _ _ _ _ _ _ _ _ _ _ _ _ _ _ _ _ _ _ _ _ _
      | exact blend_Over.mono _ _ _ _ _ _ _ _ _ _ _ _
      | exact serifref22_Over.mono _ _ _ _ _ _ _ _ _ _ _ _
      | exact LeO.none _
      | refine LeO.ite ?_ ?_
      | refine LeO.bind ?_ (fun _ => ?_)
set_option maxHeartbeats 8000000 in
set_option maxRecDepth 100000 in
theorem seriflaw22_BlendOvers.calls (k : Nat) (a0_0 : Int) (a0_1 : Int) (A0_2 : Option Addr) (c0_2 : Nat) (l0_2 : List Int) (a0_3 : Int) (a0_4 : Int) (a0_5 : Int) (a0_6 : Int) (A0_7 : Option Addr) (c0_7 : Nat) (l0_7 : List Int) (a0_8 : Int) (a0_9 : Int) (a0_10 : Int) (r : Bool) (w : World) (hr0_2 : Kd.C (Kd.int .u8) w A0_2 l0_2.length l0_2) (hc0_2 : l0_2.length ≤ c0_2) (hr0_7 : Kd.C (Kd.int .u8) w A0_7 l0_7.length l0_7) (hc0_7 : l0_7.length ≤ c0_7) (h : seriflaw22_BlendOvers.f k a0_0 a0_1 l0_2 a0_3 a0_4 a0_5 a0_6 l0_7 a0_8 a0_9 a0_10 = some r) :
    Calls Try.prog 6 #[.agg #[.int .i64 a0_0, .int .i64 a0_1, .slice A0_2 l0_2.length c0_2, .int .i64 a0_3, .int .i64 a0_4, .int .i64 a0_5, .int .i64 a0_6, .slice A0_7 l0_7.length c0_7, .int .i64 a0_8, .int .i64 a0_9, .int .u8 a0_10]] w fun e w' => e = .returned (.bool r) ∧ Below w.heap.size w w' := by
  have hu36 := Try.underlying36
  have hu32 := Try.underlying32
  have hu34 := Try.underlying34
  have HR0_2 := Aside0.mk hr0_2
  have HC0_2 := Aside0.mk hc0_2
  clear hr0_2 hc0_2
  have HR0_7 := Aside0.mk hr0_7
  have HC0_7 := Aside0.mk hc0_7
  clear hr0_7 hc0_7
  have HB := Aside0.mk (Below.refl w.heap.size w)
  have H : ((seriflaw22_blendAlive.f).bind fun t152 => (if t152 = true then ((serifref22_Copy.f a0_0 a0_1 l0_2).bind fun bt153 => ((some (([] : List Int) : List Int)).bind fun y160 => (if y160.length + l0_7.length < 140737488355328 then ((some (y160 ++ l0_7 : List Int)).bind fun y163 => ((serifref22_Over.f k a0_0 a0_1 l0_2 a0_3 a0_4 a0_5 a0_6 l0_7 a0_8 a0_9 a0_10).bind fun bt166 => ((blend_Over.f k bt153.1 bt153.2.1 bt153.2.2 a0_3 a0_4 a0_5 a0_6 y163 a0_8 a0_9 a0_10).bind fun bt173 => (if bt173.2.2.2 = bt166.2.2.2 then ((serifref22_Same.f bt173.1 bt173.2.1 bt173.2.2.1 bt166.1 bt166.2.1 bt166.2.2.1).bind fun t180 => (seriflaw22_BlendOvers.j0 k (!t180) a0_0 a0_1 l0_2 a0_3 a0_4 a0_5 a0_6 l0_7 a0_8 a0_9 a0_10 bt153.1 bt153.2.1 bt153.2.2 a0_3 a0_4 a0_5 a0_6 y163 bt173.1 bt173.2.1 bt173.2.2.1)) else (seriflaw22_BlendOvers.j0 k true a0_0 a0_1 l0_2 a0_3 a0_4 a0_5 a0_6 l0_7 a0_8 a0_9 a0_10 bt153.1 bt153.2.1 bt153.2.2 a0_3 a0_4 a0_5 a0_6 y163 bt173.1 bt173.2.1 bt173.2.2.1))))) else (none)))) else (some false))) = some r := h
  clear h
  replace H := Option.bind_eq_some_iff.mp H
  obtain ⟨t152, A20, H⟩ := H
  replace H : (if t152 = true then ((serifref22_Copy.f a0_0 a0_1 l0_2).bind fun bt153 => ((some (([] : List Int) : List Int)).bind fun y160 => (if y160.length + l0_7.length < 140737488355328 then ((some (y160 ++ l0_7 : List Int)).bind fun y163 => ((serifref22_Over.f k a0_0 a0_1 l0_2 a0_3 a0_4 a0_5 a0_6 l0_7 a0_8 a0_9 a0_10).bind fun bt166 => ((blend_Over.f k bt153.1 bt153.2.1 bt153.2.2 a0_3 a0_4 a0_5 a0_6 y163 a0_8 a0_9 a0_10).bind fun bt173 => (if bt173.2.2.2 = bt166.2.2.2 then ((serifref22_Same.f bt173.1 bt173.2.1 bt173.2.2.1 bt166.1 bt166.2.1 bt166.2.2.1).bind fun t180 => (seriflaw22_BlendOvers.j0 k (!t180) a0_0 a0_1 l0_2 a0_3 a0_4 a0_5 a0_6 l0_7 a0_8 a0_9 a0_10 bt153.1 bt153.2.1 bt153.2.2 a0_3 a0_4 a0_5 a0_6 y163 bt173.1 bt173.2.1 bt173.2.2.1)) else (seriflaw22_BlendOvers.j0 k true a0_0 a0_1 l0_2 a0_3 a0_4 a0_5 a0_6 l0_7 a0_8 a0_9 a0_10 bt153.1 bt153.2.1 bt153.2.2 a0_3 a0_4 a0_5 a0_6 y163 bt173.1 bt173.2.1 bt173.2.2.1))))) else (none)))) else (some false)) = some r := H
  have A2 := Aside0.mk A20
  clear A20
  by_cases c3 : t152 = true
  · subst c3
    have H1 : ((serifref22_Copy.f a0_0 a0_1 l0_2).bind fun bt153 => ((some (([] : List Int) : List Int)).bind fun y160 => (if y160.length + l0_7.length < 140737488355328 then ((some (y160 ++ l0_7 : List Int)).bind fun y163 => ((serifref22_Over.f k a0_0 a0_1 l0_2 a0_3 a0_4 a0_5 a0_6 l0_7 a0_8 a0_9 a0_10).bind fun bt166 => ((blend_Over.f k bt153.1 bt153.2.1 bt153.2.2 a0_3 a0_4 a0_5 a0_6 y163 a0_8 a0_9 a0_10).bind fun bt173 => (if bt173.2.2.2 = bt166.2.2.2 then ((serifref22_Same.f bt173.1 bt173.2.1 bt173.2.2.1 bt166.1 bt166.2.1 bt166.2.2.1).bind fun t180 => (seriflaw22_BlendOvers.j0 k (!t180) a0_0 a0_1 l0_2 a0_3 a0_4 a0_5 a0_6 l0_7 a0_8 a0_9 a0_10 bt153.1 bt153.2.1 bt153.2.2 a0_3 a0_4 a0_5 a0_6 y163 bt173.1 bt173.2.1 bt173.2.2.1)) else (seriflaw22_BlendOvers.j0 k true a0_0 a0_1 l0_2 a0_3 a0_4 a0_5 a0_6 l0_7 a0_8 a0_9 a0_10 bt153.1 bt153.2.1 bt153.2.2 a0_3 a0_4 a0_5 a0_6 y163 bt173.1 bt173.2.1 bt173.2.2.1))))) else (none)))) = some r := by rw [if_pos rfl] at H; exact H
    clear H
    have H := H1
    clear H1
    replace H := Option.bind_eq_some_iff.mp H
    obtain ⟨⟨t153, t154, t155⟩, A40, H⟩ := H
    replace H : ((some (([] : List Int) : List Int)).bind fun y160 => (if y160.length + l0_7.length < 140737488355328 then ((some (y160 ++ l0_7 : List Int)).bind fun y163 => ((serifref22_Over.f k a0_0 a0_1 l0_2 a0_3 a0_4 a0_5 a0_6 l0_7 a0_8 a0_9 a0_10).bind fun bt166 => ((blend_Over.f k t153 t154 t155 a0_3 a0_4 a0_5 a0_6 y163 a0_8 a0_9 a0_10).bind fun bt173 => (if bt173.2.2.2 = bt166.2.2.2 then ((serifref22_Same.f bt173.1 bt173.2.1 bt173.2.2.1 bt166.1 bt166.2.1 bt166.2.2.1).bind fun t180 => (seriflaw22_BlendOvers.j0 k (!t180) a0_0 a0_1 l0_2 a0_3 a0_4 a0_5 a0_6 l0_7 a0_8 a0_9 a0_10 t153 t154 t155 a0_3 a0_4 a0_5 a0_6 y163 bt173.1 bt173.2.1 bt173.2.2.1)) else (seriflaw22_BlendOvers.j0 k true a0_0 a0_1 l0_2 a0_3 a0_4 a0_5 a0_6 l0_7 a0_8 a0_9 a0_10 t153 t154 t155 a0_3 a0_4 a0_5 a0_6 y163 bt173.1 bt173.2.1 bt173.2.2.1))))) else (none))) = some r := H
    have A4 := Aside0.mk A40
    clear A40
    obtain ⟨y160, hy160⟩ : ∃ y_ : List Int, y_ = (([] : List Int)) := ⟨_, rfl⟩
    replace H : (if y160.length + l0_7.length < 140737488355328 then ((some (y160 ++ l0_7 : List Int)).bind fun y163 => ((serifref22_Over.f k a0_0 a0_1 l0_2 a0_3 a0_4 a0_5 a0_6 l0_7 a0_8 a0_9 a0_10).bind fun bt166 => ((blend_Over.f k t153 t154 t155 a0_3 a0_4 a0_5 a0_6 y163 a0_8 a0_9 a0_10).bind fun bt173 => (if bt173.2.2.2 = bt166.2.2.2 then ((serifref22_Same.f bt173.1 bt173.2.1 bt173.2.2.1 bt166.1 bt166.2.1 bt166.2.2.1).bind fun t180 => (seriflaw22_BlendOvers.j0 k (!t180) a0_0 a0_1 l0_2 a0_3 a0_4 a0_5 a0_6 l0_7 a0_8 a0_9 a0_10 t153 t154 t155 a0_3 a0_4 a0_5 a0_6 y163 bt173.1 bt173.2.1 bt173.2.2.1)) else (seriflaw22_BlendOvers.j0 k true a0_0 a0_1 l0_2 a0_3 a0_4 a0_5 a0_6 l0_7 a0_8 a0_9 a0_10 t153 t154 t155 a0_3 a0_4 a0_5 a0_6 y163 bt173.1 bt173.2.1 bt173.2.2.1))))) else (none)) = some r := by first | (rw [hy160]; with_reducible exact H) | (have H2_ := (Option.bind_some _ _).symm.trans H; rw [hy160]; with_reducible exact H2_) | (have H2_ := (Option.bind_some _ _).symm.trans H; with_reducible exact H2_) | with_reducible exact H | (rw [hy160]; exact H) | exact H
    have Ny160 := Aside0.mk hy160
    clear hy160
    by_cases c5 : y160.length + l0_7.length < 140737488355328
    · rw [if_pos c5] at H
      have LMc5 := Aside0.mk c5
      clear c5
      obtain ⟨y163, hy163⟩ : ∃ y_ : List Int, y_ = (y160 ++ l0_7) := ⟨_, rfl⟩
      replace H : ((serifref22_Over.f k a0_0 a0_1 l0_2 a0_3 a0_4 a0_5 a0_6 l0_7 a0_8 a0_9 a0_10).bind fun bt166 => ((blend_Over.f k t153 t154 t155 a0_3 a0_4 a0_5 a0_6 y163 a0_8 a0_9 a0_10).bind fun bt173 => (if bt173.2.2.2 = bt166.2.2.2 then ((serifref22_Same.f bt173.1 bt173.2.1 bt173.2.2.1 bt166.1 bt166.2.1 bt166.2.2.1).bind fun t180 => (seriflaw22_BlendOvers.j0 k (!t180) a0_0 a0_1 l0_2 a0_3 a0_4 a0_5 a0_6 l0_7 a0_8 a0_9 a0_10 t153 t154 t155 a0_3 a0_4 a0_5 a0_6 y163 bt173.1 bt173.2.1 bt173.2.2.1)) else (seriflaw22_BlendOvers.j0 k true a0_0 a0_1 l0_2 a0_3 a0_4 a0_5 a0_6 l0_7 a0_8 a0_9 a0_10 t153 t154 t155 a0_3 a0_4 a0_5 a0_6 y163 bt173.1 bt173.2.1 bt173.2.2.1)))) = some r := by first | (rw [hy163]; with_reducible exact H) | (have H2_ := (Option.bind_some _ _).symm.trans H; rw [hy163]; with_reducible exact H2_) | (have H2_ := (Option.bind_some _ _).symm.trans H; with_reducible exact H2_) | with_reducible exact H | (rw [hy163]; exact H) | exact H
      have Ny163 := Aside0.mk hy163
      clear hy163
      replace H := Option.bind_eq_some_iff.mp H
      obtain ⟨⟨t166, t167, t168, t171⟩, A60, H⟩ := H
      replace H : ((blend_Over.f k t153 t154 t155 a0_3 a0_4 a0_5 a0_6 y163 a0_8 a0_9 a0_10).bind fun bt173 => (if bt173.2.2.2 = t171 then ((serifref22_Same.f bt173.1 bt173.2.1 bt173.2.2.1 t166 t167 t168).bind fun t180 => (seriflaw22_BlendOvers.j0 k (!t180) a0_0 a0_1 l0_2 a0_3 a0_4 a0_5 a0_6 l0_7 a0_8 a0_9 a0_10 t153 t154 t155 a0_3 a0_4 a0_5 a0_6 y163 bt173.1 bt173.2.1 bt173.2.2.1)) else (seriflaw22_BlendOvers.j0 k true a0_0 a0_1 l0_2 a0_3 a0_4 a0_5 a0_6 l0_7 a0_8 a0_9 a0_10 t153 t154 t155 a0_3 a0_4 a0_5 a0_6 y163 bt173.1 bt173.2.1 bt173.2.2.1))) = some r := H
      have A6 := Aside0.mk A60
      clear A60
      replace H := Option.bind_eq_some_iff.mp H
      obtain ⟨⟨t173, t174, t175, t178⟩, A70, H⟩ := H
      replace H : (if t178 = t171 then ((serifref22_Same.f t173 t174 t175 t166 t167 t168).bind fun t180 => (seriflaw22_BlendOvers.j0 k (!t180) a0_0 a0_1 l0_2 a0_3 a0_4 a0_5 a0_6 l0_7 a0_8 a0_9 a0_10 t153 t154 t155 a0_3 a0_4 a0_5 a0_6 y163 t173 t174 t175)) else (seriflaw22_BlendOvers.j0 k true a0_0 a0_1 l0_2 a0_3 a0_4 a0_5 a0_6 l0_7 a0_8 a0_9 a0_10 t153 t154 t155 a0_3 a0_4 a0_5 a0_6 y163 t173 t174 t175)) = some r := H
      have A7 := Aside0.mk A70
      clear A70
      have HC8 := Aside0.mk H
      clear H
      go_enter Try.func6, Try.ntmps6
      go_upto_region 8 with (first | ((with_reducible refine gate_dst (N := 1) rfl ?_); refine box_event ?hg (N := 1) ?hd (cs := #[.int .i64 a0_0, .int .i64 a0_1, .slice A0_2 l0_2.length c0_2, .int .i64 a0_3, .int .i64 a0_4, .int .i64 a0_5, .int .i64 a0_6, .slice A0_7 l0_7.length c0_7, .int .i64 a0_8, .int .i64 a0_9, .int .u8 a0_10]) (t := 36) ?hr ?_; (case hd => rfl); (case hg => rfl); (case hr => first | (go_simp; done) | (go_simp; rfl)); intro gb151 hg w9 hbox hb; have n0_ := Aside0.mk (below_step (by repeat (first | (with_reducible first | exact HB.out | apply below_alloc | apply pw_below_drewN | apply below_drew1) | exact HB.out)) hb); have n1_ := Aside0.mk (hbox); have n2_ := Aside0.mk ((by rw [hg]; exact (below_size (by repeat (first | (with_reducible first | exact HB.out | apply below_alloc | apply pw_below_drewN | apply below_drew1) | exact HB.out))) : w.heap.size ≤ gb151)); have n3_ := Aside0.mk ((by rw [hg]; exact (below_size (by repeat (first | (with_reducible first | exact HB.out | apply below_alloc | apply pw_below_drewN | apply below_drew1) | exact HB.out))) : w.heap.size ≤ gb151)); clear HB; have HB := n0_; have BK151 := n1_; have GW151 := n2_; have GE151 := n3_; clear n0_ n1_ n2_ n3_; clear hb hbox hg) | ((with_reducible refine gate_callee (f := 22) rfl ?_); refine goesL_ (some 10) rfl rfl Try.func22 (by kernel_rfl) rfl #[] rfl (by (try simp only [List.map_toArray, List.map_cons, List.map_nil]); first | done | rfl | (simp only [List.length_drop, List.length_take]; rfl)) ?_; (with_reducible refine (seriflaw22_blendAlive.calls  true _ A2.out).mono ?_); rintro e w10 ⟨rfl, hb⟩; refine ⟨_, rfl, ?_⟩; have n0_ := Aside0.mk (blk_below (g := gb151) (o := .cells #[.int .i64 a0_0, .int .i64 a0_1, .slice A0_2 l0_2.length c0_2, .int .i64 a0_3, .int .i64 a0_4, .int .i64 a0_5, .int .i64 a0_6, .slice A0_7 l0_7.length c0_7, .int .i64 a0_8, .int .i64 a0_9, .int .u8 a0_10] 36 (0, 0)) (by (with_reducible repeat (first | refine blk_drewN ?_ _ | refine blk_drew ?_ | refine blk_alloc ?_ _)); exact BK151.out) hb); have n1_ := Aside0.mk (below_step (by repeat (first | (with_reducible first | exact HB.out | apply below_alloc | apply pw_below_drewN | apply below_drew1 | refine below_set ?_ GE151.out) | exact HB.out)) hb); clear BK151; clear HB; have BK151 := n0_; have HB := n1_; clear n0_ n1_; (try clear hb); (try clear hb2); (try clear hk); (try clear hi); have hcz11_0 : w10.cell? ⟨gb151, 0, none⟩ = some (.int .i64 a0_0) := (blk_cell BK151.out 0).trans rfl; have hcz11_1 : w10.cell? ⟨gb151, 1, none⟩ = some (.int .i64 a0_1) := (blk_cell BK151.out 1).trans rfl; have hcz11_2 : w10.cell? ⟨gb151, 2, none⟩ = some (.slice A0_2 l0_2.length c0_2) := (blk_cell BK151.out 2).trans rfl; have hcz11_3 : w10.cell? ⟨gb151, 3, none⟩ = some (.int .i64 a0_3) := (blk_cell BK151.out 3).trans rfl; have hcz11_4 : w10.cell? ⟨gb151, 4, none⟩ = some (.int .i64 a0_4) := (blk_cell BK151.out 4).trans rfl; have hcz11_5 : w10.cell? ⟨gb151, 5, none⟩ = some (.int .i64 a0_5) := (blk_cell BK151.out 5).trans rfl; have hcz11_6 : w10.cell? ⟨gb151, 6, none⟩ = some (.int .i64 a0_6) := (blk_cell BK151.out 6).trans rfl; have hcz11_7 : w10.cell? ⟨gb151, 7, none⟩ = some (.slice A0_7 l0_7.length c0_7) := (blk_cell BK151.out 7).trans rfl; have hcz11_8 : w10.cell? ⟨gb151, 8, none⟩ = some (.int .i64 a0_8) := (blk_cell BK151.out 8).trans rfl; have hcz11_9 : w10.cell? ⟨gb151, 9, none⟩ = some (.int .i64 a0_9) := (blk_cell BK151.out 9).trans rfl; have hcz11_10 : w10.cell? ⟨gb151, 10, none⟩ = some (.int .u8 a0_10) := (blk_cell BK151.out 10).trans rfl; have hfz11_0 := blk_frozen BK151.out 0; have hfz11_1 := blk_frozen BK151.out 1; have hfz11_2 := blk_frozen BK151.out 2; have hfz11_3 := blk_frozen BK151.out 3; have hfz11_4 := blk_frozen BK151.out 4; have hfz11_5 := blk_frozen BK151.out 5; have hfz11_6 := blk_frozen BK151.out 6; have hfz11_7 := blk_frozen BK151.out 7; have hfz11_8 := blk_frozen BK151.out 8; have hfz11_9 := blk_frozen BK151.out 9; have hfz11_10 := blk_frozen BK151.out 10) | ((with_reducible refine gate_callee (f := 23) rfl ?_); refine goesL_ (some 14) rfl rfl Try.func23 (by kernel_rfl) rfl #[.agg #[.int .i64 a0_0, .int .i64 a0_1, .slice A0_2 l0_2.length c0_2]] rfl (by (try simp only [List.map_toArray, List.map_cons, List.map_nil]); first | done | rfl | (simp only [List.length_drop, List.length_take]; rfl)) ?_; (with_reducible refine (serifref22_Copy.calls a0_0 a0_1 _ _ l0_2 t153 t154 t155 _ ?side1 ?side2 A4.out).mono ?_); (case side1 => repeat (first | exact (Kd.C_below HR0_2.out HB.out) | (with_reducible refine Kd.C_alloc ?_ _) | (with_reducible refine Kd.C_drewN ?_ _) | (with_reducible refine Kd.C_drew ?_))); (case side2 => exact HC0_2.out); rintro e w12 ⟨v156, rfl, ho0, hb⟩; refine ⟨_, rfl, ?_⟩; have n0_ := Aside0.mk (Kd.R_lower ho0 (below_size (by repeat (first | (with_reducible first | exact HB.out | apply below_alloc | apply pw_below_drewN | apply below_drew1 | refine below_set ?_ GE151.out) | exact HB.out)))); have n1_ := Aside0.mk (blk_below (g := gb151) (o := .cells #[.int .i64 a0_0, .int .i64 a0_1, .slice A0_2 l0_2.length c0_2, .int .i64 a0_3, .int .i64 a0_4, .int .i64 a0_5, .int .i64 a0_6, .slice A0_7 l0_7.length c0_7, .int .i64 a0_8, .int .i64 a0_9, .int .u8 a0_10] 36 (0, 0)) (by (with_reducible repeat (first | refine blk_drewN ?_ _ | refine blk_drew ?_ | refine blk_alloc ?_ _)); exact BK151.out) hb); have n2_ := Aside0.mk (below_step (by repeat (first | (with_reducible first | exact HB.out | apply below_alloc | apply pw_below_drewN | apply below_drew1 | refine below_set ?_ GE151.out) | exact HB.out)) hb); clear BK151; clear HB; have HO157 := n0_; have BK151 := n1_; have HB := n2_; clear n0_ n1_ n2_; (try clear hb); (try clear hb2); (try clear hk); (try clear hi); (try clear ho0)) | ((with_reducible refine gate_dst (N := 3) rfl ?_); refine box_event ?hg (N := 3) ?hd (cs := #[.int .i64 0, .int .i64 0, .slice none 0 0]) (t := 32) ?hr ?_; (case hd => rfl); (case hg => rfl); (case hr => first | (go_simp; done) | (go_simp; rfl)); intro gb158 hg w13 hbox hb; have n0_ := Aside0.mk (Kd.R_below (by (with_reducible repeat (first | apply Kd.R_alloc | apply Kd.R_drewN | apply Kd.R_drew)); exact HO157.out) hb); have n1_ := Aside0.mk (blk_below (g := gb151) (o := .cells #[.int .i64 a0_0, .int .i64 a0_1, .slice A0_2 l0_2.length c0_2, .int .i64 a0_3, .int .i64 a0_4, .int .i64 a0_5, .int .i64 a0_6, .slice A0_7 l0_7.length c0_7, .int .i64 a0_8, .int .i64 a0_9, .int .u8 a0_10] 36 (0, 0)) (by (with_reducible repeat (first | refine blk_drewN ?_ _ | refine blk_drew ?_ | refine blk_alloc ?_ _)); exact BK151.out) hb); have n2_ := Aside0.mk (below_step (by repeat (first | (with_reducible first | exact HB.out | apply below_alloc | apply pw_below_drewN | apply below_drew1 | refine below_set ?_ GE151.out) | exact HB.out)) hb); have n3_ := Aside0.mk (hbox); have n4_ := Aside0.mk ((by rw [hg]; exact (below_size (by repeat (first | (with_reducible first | exact HB.out | apply below_alloc | apply pw_below_drewN | apply below_drew1 | refine below_set ?_ GE151.out) | exact HB.out))) : w.heap.size ≤ gb158)); have n5_ := Aside0.mk ((by rw [hg]; exact (below_size (by repeat (first | (with_reducible first | exact HB.out | apply below_alloc | apply pw_below_drewN | apply below_drew1 | refine below_set ?_ GE151.out) | exact HB.out))) : w.heap.size ≤ gb158)); have n6_ := Aside0.mk ((by rw [hg]; exact Nat.ne_of_lt (blk_lt (g := gb151) (o := .cells #[.int .i64 a0_0, .int .i64 a0_1, .slice A0_2 l0_2.length c0_2, .int .i64 a0_3, .int .i64 a0_4, .int .i64 a0_5, .int .i64 a0_6, .slice A0_7 l0_7.length c0_7, .int .i64 a0_8, .int .i64 a0_9, .int .u8 a0_10] 36 (0, 0)) (by (with_reducible repeat (first | refine blk_drewN ?_ _ | refine blk_drew ?_ | refine blk_alloc ?_ _)); exact BK151.out)) : gb151 ≠ gb158)); have n7_ := Aside0.mk ((by rw [hg]; exact Nat.ne_of_gt (blk_lt (g := gb151) (o := .cells #[.int .i64 a0_0, .int .i64 a0_1, .slice A0_2 l0_2.length c0_2, .int .i64 a0_3, .int .i64 a0_4, .int .i64 a0_5, .int .i64 a0_6, .slice A0_7 l0_7.length c0_7, .int .i64 a0_8, .int .i64 a0_9, .int .u8 a0_10] 36 (0, 0)) (by (with_reducible repeat (first | refine blk_drewN ?_ _ | refine blk_drew ?_ | refine blk_alloc ?_ _)); exact BK151.out)) : gb158 ≠ gb151)); clear HO157; clear BK151; clear HB; have HO157 := n0_; have BK151 := n1_; have HB := n2_; have BK158 := n3_; have GW158 := n4_; have GE158 := n5_; have NB151_158 := n6_; have NB158_151 := n7_; clear n0_ n1_ n2_ n3_ n4_ n5_ n6_ n7_; clear hb hbox hg; have hnb14 := NB158_151.out; have hnc14 := NB151_158.out; have hcz15_0 : w13.cell? ⟨gb158, 0, none⟩ = some (.int .i64 0) := (blk_cell BK158.out 0).trans rfl; have hcz15_1 : w13.cell? ⟨gb158, 1, none⟩ = some (.int .i64 0) := (blk_cell BK158.out 1).trans rfl; have hcz15_2 : w13.cell? ⟨gb158, 2, none⟩ = some (.slice none 0 0) := (blk_cell BK158.out 2).trans rfl; have hfz15_0 := blk_frozen BK158.out 0; have hfz15_1 := blk_frozen BK158.out 1; have hfz15_2 := blk_frozen BK158.out 2; obtain ⟨Ao16, co16, eo16⟩ := Kd.R_slice HO157.out; subst eo16; have hcz17_0 : w13.cell? ⟨gb151, 0, none⟩ = some (.int .i64 a0_0) := (blk_cell BK151.out 0).trans rfl; have hcz17_1 : w13.cell? ⟨gb151, 1, none⟩ = some (.int .i64 a0_1) := (blk_cell BK151.out 1).trans rfl; have hcz17_2 : w13.cell? ⟨gb151, 2, none⟩ = some (.slice A0_2 l0_2.length c0_2) := (blk_cell BK151.out 2).trans rfl; have hcz17_3 : w13.cell? ⟨gb151, 3, none⟩ = some (.int .i64 a0_3) := (blk_cell BK151.out 3).trans rfl; have hcz17_4 : w13.cell? ⟨gb151, 4, none⟩ = some (.int .i64 a0_4) := (blk_cell BK151.out 4).trans rfl; have hcz17_5 : w13.cell? ⟨gb151, 5, none⟩ = some (.int .i64 a0_5) := (blk_cell BK151.out 5).trans rfl; have hcz17_6 : w13.cell? ⟨gb151, 6, none⟩ = some (.int .i64 a0_6) := (blk_cell BK151.out 6).trans rfl; have hcz17_7 : w13.cell? ⟨gb151, 7, none⟩ = some (.slice A0_7 l0_7.length c0_7) := (blk_cell BK151.out 7).trans rfl; have hcz17_8 : w13.cell? ⟨gb151, 8, none⟩ = some (.int .i64 a0_8) := (blk_cell BK151.out 8).trans rfl; have hcz17_9 : w13.cell? ⟨gb151, 9, none⟩ = some (.int .i64 a0_9) := (blk_cell BK151.out 9).trans rfl; have hcz17_10 : w13.cell? ⟨gb151, 10, none⟩ = some (.int .u8 a0_10) := (blk_cell BK151.out 10).trans rfl; have hfz17_0 := blk_frozen BK151.out 0; have hfz17_1 := blk_frozen BK151.out 1; have hfz17_2 := blk_frozen BK151.out 2; have hfz17_3 := blk_frozen BK151.out 3; have hfz17_4 := blk_frozen BK151.out 4; have hfz17_5 := blk_frozen BK151.out 5; have hfz17_6 := blk_frozen BK151.out 6; have hfz17_7 := blk_frozen BK151.out 7; have hfz17_8 := blk_frozen BK151.out 8; have hfz17_9 := blk_frozen BK151.out 9; have hfz17_10 := blk_frozen BK151.out 10) | ((with_reducible refine gate_dst (N := 4) rfl ?_); refine box_event ?hg (N := 4) ?hd (cs := #[.int .i64 0, .int .i64 0, .int .i64 0, .int .i64 0, .slice none 0 0]) (t := 34) ?hr ?_; (case hd => rfl); (case hg => rfl); (case hr => first | (go_simp; done) | (go_simp; rfl)); intro gb159 hg w18 hbox hb; have n0_ := Aside0.mk (Kd.R_below (by (with_reducible repeat (first | apply Kd.R_alloc | apply Kd.R_drewN | apply Kd.R_drew)); exact (Kd.R_mono (Kd.R_far (p := ⟨gb158, 2, none⟩) (Kd.R_far (p := ⟨gb158, 1, none⟩) (Kd.R_far (p := ⟨gb158, 0, none⟩) (Kd.R_types HO157.out BK158.out (by decide)) (fun _ hk => hk.2) (.int .i64 t153)) (fun _ hk => hk.2) (.int .i64 t154)) (fun _ hk => hk.2) (.slice Ao16 t155.length co16)) (fun _ h_ => h_.1))) hb); have n1_ := Aside0.mk (blk_below (g := gb151) (o := .cells #[.int .i64 a0_0, .int .i64 a0_1, .slice A0_2 l0_2.length c0_2, .int .i64 a0_3, .int .i64 a0_4, .int .i64 a0_5, .int .i64 a0_6, .slice A0_7 l0_7.length c0_7, .int .i64 a0_8, .int .i64 a0_9, .int .u8 a0_10] 36 (0, 0)) (by (with_reducible repeat (first | refine blk_drewN ?_ _ | refine blk_drew ?_ | refine blk_alloc ?_ _)); refine blk_far ?_ NB151_158.out _; (with_reducible repeat (first | refine blk_drewN ?_ _ | refine blk_drew ?_ | refine blk_alloc ?_ _)); refine blk_far ?_ NB151_158.out _; (with_reducible repeat (first | refine blk_drewN ?_ _ | refine blk_drew ?_ | refine blk_alloc ?_ _)); refine blk_far ?_ NB151_158.out _; (with_reducible repeat (first | refine blk_drewN ?_ _ | refine blk_drew ?_ | refine blk_alloc ?_ _)); exact BK151.out) hb); have n2_ := Aside0.mk (blk_below (g := gb158) (o := .cells #[.int .i64 t153, .int .i64 t154, .slice Ao16 t155.length co16] 32 (0, 0)) (by (with_reducible repeat (first | refine blk_drewN ?_ _ | refine blk_drew ?_ | refine blk_alloc ?_ _)); refine blk_put (cs := #[.int .i64 t153, .int .i64 t154, .slice none 0 0]) ?_ 2 _ rfl; (with_reducible repeat (first | refine blk_drewN ?_ _ | refine blk_drew ?_ | refine blk_alloc ?_ _)); refine blk_put (cs := #[.int .i64 t153, .int .i64 0, .slice none 0 0]) ?_ 1 _ rfl; (with_reducible repeat (first | refine blk_drewN ?_ _ | refine blk_drew ?_ | refine blk_alloc ?_ _)); refine blk_put (cs := #[.int .i64 0, .int .i64 0, .slice none 0 0]) ?_ 0 _ rfl; (with_reducible repeat (first | refine blk_drewN ?_ _ | refine blk_drew ?_ | refine blk_alloc ?_ _)); exact BK158.out) hb); have n3_ := Aside0.mk (below_step (by repeat (first | (with_reducible first | exact HB.out | apply below_alloc | apply pw_below_drewN | apply below_drew1 | refine below_set ?_ GE151.out | refine below_set ?_ GE158.out) | exact HB.out)) hb); have n4_ := Aside0.mk (hbox); have n5_ := Aside0.mk ((by rw [hg]; exact (below_size (by repeat (first | (with_reducible first | exact HB.out | apply below_alloc | apply pw_below_drewN | apply below_drew1 | refine below_set ?_ GE151.out | refine below_set ?_ GE158.out) | exact HB.out))) : w.heap.size ≤ gb159)); have n6_ := Aside0.mk ((by rw [hg]; exact (below_size (by repeat (first | (with_reducible first | exact HB.out | apply below_alloc | apply pw_below_drewN | apply below_drew1 | refine below_set ?_ GE151.out | refine below_set ?_ GE158.out) | exact HB.out))) : w.heap.size ≤ gb159)); have n7_ := Aside0.mk ((by rw [hg]; exact Nat.ne_of_lt (blk_lt (g := gb151) (o := .cells #[.int .i64 a0_0, .int .i64 a0_1, .slice A0_2 l0_2.length c0_2, .int .i64 a0_3, .int .i64 a0_4, .int .i64 a0_5, .int .i64 a0_6, .slice A0_7 l0_7.length c0_7, .int .i64 a0_8, .int .i64 a0_9, .int .u8 a0_10] 36 (0, 0)) (by (with_reducible repeat (first | refine blk_drewN ?_ _ | refine blk_drew ?_ | refine blk_alloc ?_ _)); refine blk_far ?_ NB151_158.out _; (with_reducible repeat (first | refine blk_drewN ?_ _ | refine blk_drew ?_ | refine blk_alloc ?_ _)); refine blk_far ?_ NB151_158.out _; (with_reducible repeat (first | refine blk_drewN ?_ _ | refine blk_drew ?_ | refine blk_alloc ?_ _)); refine blk_far ?_ NB151_158.out _; (with_reducible repeat (first | refine blk_drewN ?_ _ | refine blk_drew ?_ | refine blk_alloc ?_ _)); exact BK151.out)) : gb151 ≠ gb159)); have n8_ := Aside0.mk ((by rw [hg]; exact Nat.ne_of_gt (blk_lt (g := gb151) (o := .cells #[.int .i64 a0_0, .int .i64 a0_1, .slice A0_2 l0_2.length c0_2, .int .i64 a0_3, .int .i64 a0_4, .int .i64 a0_5, .int .i64 a0_6, .slice A0_7 l0_7.length c0_7, .int .i64 a0_8, .int .i64 a0_9, .int .u8 a0_10] 36 (0, 0)) (by (with_reducible repeat (first | refine blk_drewN ?_ _ | refine blk_drew ?_ | refine blk_alloc ?_ _)); refine blk_far ?_ NB151_158.out _; (with_reducible repeat (first | refine blk_drewN ?_ _ | refine blk_drew ?_ | refine blk_alloc ?_ _)); refine blk_far ?_ NB151_158.out _; (with_reducible repeat (first | refine blk_drewN ?_ _ | refine blk_drew ?_ | refine blk_alloc ?_ _)); refine blk_far ?_ NB151_158.out _; (with_reducible repeat (first | refine blk_drewN ?_ _ | refine blk_drew ?_ | refine blk_alloc ?_ _)); exact BK151.out)) : gb159 ≠ gb151)); have n9_ := Aside0.mk ((by rw [hg]; exact Nat.ne_of_lt (blk_lt (g := gb158) (o := .cells #[.int .i64 t153, .int .i64 t154, .slice Ao16 t155.length co16] 32 (0, 0)) (by (with_reducible repeat (first | refine blk_drewN ?_ _ | refine blk_drew ?_ | refine blk_alloc ?_ _)); refine blk_put (cs := #[.int .i64 t153, .int .i64 t154, .slice none 0 0]) ?_ 2 _ rfl; (with_reducible repeat (first | refine blk_drewN ?_ _ | refine blk_drew ?_ | refine blk_alloc ?_ _)); refine blk_put (cs := #[.int .i64 t153, .int .i64 0, .slice none 0 0]) ?_ 1 _ rfl; (with_reducible repeat (first | refine blk_drewN ?_ _ | refine blk_drew ?_ | refine blk_alloc ?_ _)); refine blk_put (cs := #[.int .i64 0, .int .i64 0, .slice none 0 0]) ?_ 0 _ rfl; (with_reducible repeat (first | refine blk_drewN ?_ _ | refine blk_drew ?_ | refine blk_alloc ?_ _)); exact BK158.out)) : gb158 ≠ gb159)); have n10_ := Aside0.mk ((by rw [hg]; exact Nat.ne_of_gt (blk_lt (g := gb158) (o := .cells #[.int .i64 t153, .int .i64 t154, .slice Ao16 t155.length co16] 32 (0, 0)) (by (with_reducible repeat (first | refine blk_drewN ?_ _ | refine blk_drew ?_ | refine blk_alloc ?_ _)); refine blk_put (cs := #[.int .i64 t153, .int .i64 t154, .slice none 0 0]) ?_ 2 _ rfl; (with_reducible repeat (first | refine blk_drewN ?_ _ | refine blk_drew ?_ | refine blk_alloc ?_ _)); refine blk_put (cs := #[.int .i64 t153, .int .i64 0, .slice none 0 0]) ?_ 1 _ rfl; (with_reducible repeat (first | refine blk_drewN ?_ _ | refine blk_drew ?_ | refine blk_alloc ?_ _)); refine blk_put (cs := #[.int .i64 0, .int .i64 0, .slice none 0 0]) ?_ 0 _ rfl; (with_reducible repeat (first | refine blk_drewN ?_ _ | refine blk_drew ?_ | refine blk_alloc ?_ _)); exact BK158.out)) : gb159 ≠ gb158)); clear HO157; clear BK151; clear BK158; clear HB; have HO157 := n0_; have BK151 := n1_; have BK158 := n2_; have HB := n3_; have BK159 := n4_; have GW159 := n5_; have GE159 := n6_; have NB151_159 := n7_; have NB159_151 := n8_; have NB158_159 := n9_; have NB159_158 := n10_; clear n0_ n1_ n2_ n3_ n4_ n5_ n6_ n7_ n8_ n9_ n10_; clear hb hbox hg; have hnb19 := NB159_151.out; have hnc19 := NB151_159.out; have hnb20 := NB159_158.out; have hnc20 := NB158_159.out; have hcz21_0 : w18.cell? ⟨gb159, 0, none⟩ = some (.int .i64 0) := (blk_cell BK159.out 0).trans rfl; have hcz21_1 : w18.cell? ⟨gb159, 1, none⟩ = some (.int .i64 0) := (blk_cell BK159.out 1).trans rfl; have hcz21_2 : w18.cell? ⟨gb159, 2, none⟩ = some (.int .i64 0) := (blk_cell BK159.out 2).trans rfl; have hcz21_3 : w18.cell? ⟨gb159, 3, none⟩ = some (.int .i64 0) := (blk_cell BK159.out 3).trans rfl; have hcz21_4 : w18.cell? ⟨gb159, 4, none⟩ = some (.slice none 0 0) := (blk_cell BK159.out 4).trans rfl; have hfz21_0 := blk_frozen BK159.out 0; have hfz21_1 := blk_frozen BK159.out 1; have hfz21_2 := blk_frozen BK159.out 2; have hfz21_3 := blk_frozen BK159.out 3; have hfz21_4 := blk_frozen BK159.out 4) | ((with_reducible refine gate_dst (N := 17) rfl ?_); refine Kd.R_lit (Kd.int .u8) _ 5 ?hg (N := 17) ?hd (xs := ([] : List Int)) (inner := []) (ok := fun _ => True) (okp := fun _ => True) ?hr ?hp (fun _ hk => hk) trivial (Below.refl _ _) (Nat.le_refl _) (by simp) ?_; (case hd => rfl); (case hg => rfl); (case hr => first | (go_simp; done) | (go_simp; rfl)); (case hp => exact (Reps.none _ _)); intro v161 w22 ho23 hb hg_ hnew_; clear hg_ hnew_; (first | rw [← Ny160.out] at ho23 | (simp only [Int.reduceToNat] at ho23; rw [← Ny160.out] at ho23)); have n0_ := Aside0.mk (Kd.R_elder' (by (with_reducible repeat (first | apply Kd.R_alloc | apply Kd.R_drewN | apply Kd.R_drew)); exact (Kd.R_mono (Kd.R_far (p := ⟨gb159, 4, none⟩) (Kd.R_far (p := ⟨gb159, 3, none⟩) (Kd.R_far (p := ⟨gb159, 2, none⟩) (Kd.R_far (p := ⟨gb159, 1, none⟩) (Kd.R_far (p := ⟨gb159, 0, none⟩) (Kd.R_types HO157.out BK159.out (by decide)) (fun _ hk => hk.2) (.int .i64 a0_3)) (fun _ hk => hk.2) (.int .i64 a0_4)) (fun _ hk => hk.2) (.int .i64 a0_5)) (fun _ hk => hk.2) (.int .i64 a0_6)) (fun _ hk => hk.2) (.slice A0_7 l0_7.length c0_7)) (fun _ h_ => h_.1))) (Kd.R_base ho23) hb); have n1_ := Aside0.mk (Kd.R_lower (Kd.R_new' ho23 (Kd.R_lt (by (with_reducible repeat (first | apply Kd.R_alloc | apply Kd.R_drewN | apply Kd.R_drew)); exact (Kd.R_mono (Kd.R_far (p := ⟨gb159, 4, none⟩) (Kd.R_far (p := ⟨gb159, 3, none⟩) (Kd.R_far (p := ⟨gb159, 2, none⟩) (Kd.R_far (p := ⟨gb159, 1, none⟩) (Kd.R_far (p := ⟨gb159, 0, none⟩) (Kd.R_types HO157.out BK159.out (by decide)) (fun _ hk => hk.2) (.int .i64 a0_3)) (fun _ hk => hk.2) (.int .i64 a0_4)) (fun _ hk => hk.2) (.int .i64 a0_5)) (fun _ hk => hk.2) (.int .i64 a0_6)) (fun _ hk => hk.2) (.slice A0_7 l0_7.length c0_7)) (fun _ h_ => h_.1))))) (below_size (by repeat (first | (with_reducible first | exact HB.out | apply below_alloc | apply pw_below_drewN | apply below_drew1 | refine below_set ?_ GE151.out | refine below_set ?_ GE158.out | refine below_set ?_ GE159.out) | exact HB.out)))); have n2_ := Aside0.mk (blk_below (g := gb151) (o := .cells #[.int .i64 a0_0, .int .i64 a0_1, .slice A0_2 l0_2.length c0_2, .int .i64 a0_3, .int .i64 a0_4, .int .i64 a0_5, .int .i64 a0_6, .slice A0_7 l0_7.length c0_7, .int .i64 a0_8, .int .i64 a0_9, .int .u8 a0_10] 36 (0, 0)) (by (with_reducible repeat (first | refine blk_drewN ?_ _ | refine blk_drew ?_ | refine blk_alloc ?_ _)); refine blk_far ?_ NB151_159.out _; (with_reducible repeat (first | refine blk_drewN ?_ _ | refine blk_drew ?_ | refine blk_alloc ?_ _)); refine blk_far ?_ NB151_159.out _; (with_reducible repeat (first | refine blk_drewN ?_ _ | refine blk_drew ?_ | refine blk_alloc ?_ _)); refine blk_far ?_ NB151_159.out _; (with_reducible repeat (first | refine blk_drewN ?_ _ | refine blk_drew ?_ | refine blk_alloc ?_ _)); refine blk_far ?_ NB151_159.out _; (with_reducible repeat (first | refine blk_drewN ?_ _ | refine blk_drew ?_ | refine blk_alloc ?_ _)); refine blk_far ?_ NB151_159.out _; (with_reducible repeat (first | refine blk_drewN ?_ _ | refine blk_drew ?_ | refine blk_alloc ?_ _)); exact BK151.out) hb); have n3_ := Aside0.mk (blk_below (g := gb158) (o := .cells #[.int .i64 t153, .int .i64 t154, .slice Ao16 t155.length co16] 32 (0, 0)) (by (with_reducible repeat (first | refine blk_drewN ?_ _ | refine blk_drew ?_ | refine blk_alloc ?_ _)); refine blk_far ?_ NB158_159.out _; (with_reducible repeat (first | refine blk_drewN ?_ _ | refine blk_drew ?_ | refine blk_alloc ?_ _)); refine blk_far ?_ NB158_159.out _; (with_reducible repeat (first | refine blk_drewN ?_ _ | refine blk_drew ?_ | refine blk_alloc ?_ _)); refine blk_far ?_ NB158_159.out _; (with_reducible repeat (first | refine blk_drewN ?_ _ | refine blk_drew ?_ | refine blk_alloc ?_ _)); refine blk_far ?_ NB158_159.out _; (with_reducible repeat (first | refine blk_drewN ?_ _ | refine blk_drew ?_ | refine blk_alloc ?_ _)); refine blk_far ?_ NB158_159.out _; (with_reducible repeat (first | refine blk_drewN ?_ _ | refine blk_drew ?_ | refine blk_alloc ?_ _)); exact BK158.out) hb); have n4_ := Aside0.mk (blk_below (g := gb159) (o := .cells #[.int .i64 a0_3, .int .i64 a0_4, .int .i64 a0_5, .int .i64 a0_6, .slice A0_7 l0_7.length c0_7] 34 (0, 0)) (by (with_reducible repeat (first | refine blk_drewN ?_ _ | refine blk_drew ?_ | refine blk_alloc ?_ _)); refine blk_put (cs := #[.int .i64 a0_3, .int .i64 a0_4, .int .i64 a0_5, .int .i64 a0_6, .slice none 0 0]) ?_ 4 _ rfl; (with_reducible repeat (first | refine blk_drewN ?_ _ | refine blk_drew ?_ | refine blk_alloc ?_ _)); refine blk_put (cs := #[.int .i64 a0_3, .int .i64 a0_4, .int .i64 a0_5, .int .i64 0, .slice none 0 0]) ?_ 3 _ rfl; (with_reducible repeat (first | refine blk_drewN ?_ _ | refine blk_drew ?_ | refine blk_alloc ?_ _)); refine blk_put (cs := #[.int .i64 a0_3, .int .i64 a0_4, .int .i64 0, .int .i64 0, .slice none 0 0]) ?_ 2 _ rfl; (with_reducible repeat (first | refine blk_drewN ?_ _ | refine blk_drew ?_ | refine blk_alloc ?_ _)); refine blk_put (cs := #[.int .i64 a0_3, .int .i64 0, .int .i64 0, .int .i64 0, .slice none 0 0]) ?_ 1 _ rfl; (with_reducible repeat (first | refine blk_drewN ?_ _ | refine blk_drew ?_ | refine blk_alloc ?_ _)); refine blk_put (cs := #[.int .i64 0, .int .i64 0, .int .i64 0, .int .i64 0, .slice none 0 0]) ?_ 0 _ rfl; (with_reducible repeat (first | refine blk_drewN ?_ _ | refine blk_drew ?_ | refine blk_alloc ?_ _)); exact BK159.out) hb); have n5_ := Aside0.mk (below_step (by repeat (first | (with_reducible first | exact HB.out | apply below_alloc | apply pw_below_drewN | apply below_drew1 | refine below_set ?_ GE151.out | refine below_set ?_ GE158.out | refine below_set ?_ GE159.out) | exact HB.out)) hb); clear HO157; clear BK151; clear BK158; clear BK159; clear HB; have HO157 := n0_; have HO162 := n1_; have BK151 := n2_; have BK158 := n3_; have BK159 := n4_; have HB := n5_; clear n0_ n1_ n2_ n3_ n4_ n5_; clear hb ho23; have hcz24_0 : w22.cell? ⟨gb159, 0, none⟩ = some (.int .i64 a0_3) := (blk_cell BK159.out 0).trans rfl; have hcz24_1 : w22.cell? ⟨gb159, 1, none⟩ = some (.int .i64 a0_4) := (blk_cell BK159.out 1).trans rfl; have hcz24_2 : w22.cell? ⟨gb159, 2, none⟩ = some (.int .i64 a0_5) := (blk_cell BK159.out 2).trans rfl; have hcz24_3 : w22.cell? ⟨gb159, 3, none⟩ = some (.int .i64 a0_6) := (blk_cell BK159.out 3).trans rfl; have hcz24_4 : w22.cell? ⟨gb159, 4, none⟩ = some (.slice A0_7 l0_7.length c0_7) := (blk_cell BK159.out 4).trans rfl; have hfz24_0 := blk_frozen BK159.out 0; have hfz24_1 := blk_frozen BK159.out 1; have hfz24_2 := blk_frozen BK159.out 2; have hfz24_3 := blk_frozen BK159.out 3; have hfz24_4 := blk_frozen BK159.out 4) | ((with_reducible refine gate_builtin (b := .append) (xs := #[.tmp 17, .tmp 19]) rfl ?_); at_builtin; refine Kd.R_append_rows (Kd.int .u8) (w0 := w) w.heap.size rfl (.tmp 17) (.tmp 19) 30 5 (.int .u8 0) 1 rfl Try.underlying30 info5 rfl (by decide) (by omega) v161 y160 l0_7 _ _ _ (fun k_ => some k_ ≠ (.slice Ao16 t155.length co16 : Value).ownBlock) (fun _ => False) rfl rfl ?aO ?aR (fun _ _ h => h) (fun _ h => h.elim) ?aF ?aB ?aS ?aL ?_; (case aR => repeat (first | exact (Kd.C_below HR0_7.out HB.out) | (with_reducible refine Kd.C_alloc ?_ _) | (with_reducible refine Kd.C_drewN ?_ _) | (with_reducible refine Kd.C_drew ?_))); (case aB => exact (by repeat (first | (with_reducible first | exact HB.out | apply below_alloc | apply pw_below_drewN | apply below_drew1 | refine below_set ?_ GE151.out | refine below_set ?_ GE158.out | refine below_set ?_ GE159.out) | exact HB.out))); (case aF => exact (fun k_ hk => Kd.fresh' (Kd.R_lt (by (with_reducible repeat (first | apply Kd.R_alloc | apply Kd.R_drewN | apply Kd.R_drew)); exact HO157.out)) k_ hk)); (case aO => exact (by (with_reducible repeat (first | apply Kd.R_alloc | apply Kd.R_drewN | apply Kd.R_drew)); exact Kd.R_mono HO162.out (fun _ hk => hk.2))); (case aS => exact (below_size (by repeat (first | (with_reducible first | exact HB.out | apply below_alloc | apply pw_below_drewN | apply below_drew1 | refine below_set ?_ GE151.out | refine below_set ?_ GE158.out | refine below_set ?_ GE159.out) | exact HB.out)))); (case aL => have := LMc5.out; omega); intro v164 w25 ho hb hg hat; rw [← Ny163.out] at ho; have n0_ := Aside0.mk (blk_grown (g := gb151) (o := .cells #[.int .i64 a0_0, .int .i64 a0_1, .slice A0_2 l0_2.length c0_2, .int .i64 a0_3, .int .i64 a0_4, .int .i64 a0_5, .int .i64 a0_6, .slice A0_7 l0_7.length c0_7, .int .i64 a0_8, .int .i64 a0_9, .int .u8 a0_10] 36 (0, 0)) (by (with_reducible repeat (first | refine blk_drewN ?_ _ | refine blk_drew ?_ | refine blk_alloc ?_ _)); exact BK151.out) hg (Kd.R_ne HO162.out BK151.out (by decide))); have n1_ := Aside0.mk (Kd.R_after (ok := (fun _ => True)) (by (with_reducible repeat (first | apply Kd.R_alloc | apply Kd.R_drewN | apply Kd.R_drew)); exact HO157.out) hg hat); have n2_ := Aside0.mk (blk_grown (g := gb158) (o := .cells #[.int .i64 t153, .int .i64 t154, .slice Ao16 t155.length co16] 32 (0, 0)) (by (with_reducible repeat (first | refine blk_drewN ?_ _ | refine blk_drew ?_ | refine blk_alloc ?_ _)); exact BK158.out) hg (Kd.R_ne HO162.out BK158.out (by decide))); have n3_ := Aside0.mk (blk_grown (g := gb159) (o := .cells #[.int .i64 a0_3, .int .i64 a0_4, .int .i64 a0_5, .int .i64 a0_6, .slice A0_7 l0_7.length c0_7] 34 (0, 0)) (by (with_reducible repeat (first | refine blk_drewN ?_ _ | refine blk_drew ?_ | refine blk_alloc ?_ _)); exact BK159.out) hg (Kd.R_ne HO162.out BK159.out (by decide))); have n4_ := Aside0.mk (hb); have n5_ := Aside0.mk (ho); clear BK151; clear HO157; clear BK158; clear BK159; clear HB; clear HO162; have BK151 := n0_; have HO157 := n1_; have BK158 := n2_; have BK159 := n3_; have HB := n4_; have HO165 := n5_; clear n0_ n1_ n2_ n3_ n4_ n5_; clear ho hb hg hat; obtain ⟨Ao26, co26, eo26⟩ := Kd.R_slice HO165.out; subst eo26; have hcz27_0 : w25.cell? ⟨gb159, 0, none⟩ = some (.int .i64 a0_3) := (blk_cell BK159.out 0).trans rfl; have hcz27_1 : w25.cell? ⟨gb159, 1, none⟩ = some (.int .i64 a0_4) := (blk_cell BK159.out 1).trans rfl; have hcz27_2 : w25.cell? ⟨gb159, 2, none⟩ = some (.int .i64 a0_5) := (blk_cell BK159.out 2).trans rfl; have hcz27_3 : w25.cell? ⟨gb159, 3, none⟩ = some (.int .i64 a0_6) := (blk_cell BK159.out 3).trans rfl; have hcz27_4 : w25.cell? ⟨gb159, 4, none⟩ = some (.slice A0_7 l0_7.length c0_7) := (blk_cell BK159.out 4).trans rfl; have hfz27_0 := blk_frozen BK159.out 0; have hfz27_1 := blk_frozen BK159.out 1; have hfz27_2 := blk_frozen BK159.out 2; have hfz27_3 := blk_frozen BK159.out 3; have hfz27_4 := blk_frozen BK159.out 4; have hcz28_0 : w25.cell? ⟨gb151, 0, none⟩ = some (.int .i64 a0_0) := (blk_cell BK151.out 0).trans rfl; have hcz28_1 : w25.cell? ⟨gb151, 1, none⟩ = some (.int .i64 a0_1) := (blk_cell BK151.out 1).trans rfl; have hcz28_2 : w25.cell? ⟨gb151, 2, none⟩ = some (.slice A0_2 l0_2.length c0_2) := (blk_cell BK151.out 2).trans rfl; have hcz28_3 : w25.cell? ⟨gb151, 3, none⟩ = some (.int .i64 a0_3) := (blk_cell BK151.out 3).trans rfl; have hcz28_4 : w25.cell? ⟨gb151, 4, none⟩ = some (.int .i64 a0_4) := (blk_cell BK151.out 4).trans rfl; have hcz28_5 : w25.cell? ⟨gb151, 5, none⟩ = some (.int .i64 a0_5) := (blk_cell BK151.out 5).trans rfl; have hcz28_6 : w25.cell? ⟨gb151, 6, none⟩ = some (.int .i64 a0_6) := (blk_cell BK151.out 6).trans rfl; have hcz28_7 : w25.cell? ⟨gb151, 7, none⟩ = some (.slice A0_7 l0_7.length c0_7) := (blk_cell BK151.out 7).trans rfl; have hcz28_8 : w25.cell? ⟨gb151, 8, none⟩ = some (.int .i64 a0_8) := (blk_cell BK151.out 8).trans rfl; have hcz28_9 : w25.cell? ⟨gb151, 9, none⟩ = some (.int .i64 a0_9) := (blk_cell BK151.out 9).trans rfl; have hcz28_10 : w25.cell? ⟨gb151, 10, none⟩ = some (.int .u8 a0_10) := (blk_cell BK151.out 10).trans rfl; have hfz28_0 := blk_frozen BK151.out 0; have hfz28_1 := blk_frozen BK151.out 1; have hfz28_2 := blk_frozen BK151.out 2; have hfz28_3 := blk_frozen BK151.out 3; have hfz28_4 := blk_frozen BK151.out 4; have hfz28_5 := blk_frozen BK151.out 5; have hfz28_6 := blk_frozen BK151.out 6; have hfz28_7 := blk_frozen BK151.out 7; have hfz28_8 := blk_frozen BK151.out 8; have hfz28_9 := blk_frozen BK151.out 9; have hfz28_10 := blk_frozen BK151.out 10) | ((with_reducible refine gate_callee (f := 24) rfl ?_); refine goesL_ (some 33) rfl rfl Try.func24 (by kernel_rfl) rfl #[.agg #[.int .i64 a0_0, .int .i64 a0_1, .slice A0_2 l0_2.length c0_2], .agg #[.int .i64 a0_3, .int .i64 a0_4, .int .i64 a0_5, .int .i64 a0_6, .slice A0_7 l0_7.length c0_7], .int .i64 a0_8, .int .i64 a0_9, .int .u8 a0_10] rfl (by (try simp only [List.map_toArray, List.map_cons, List.map_nil]); first | done | rfl | (simp only [List.length_drop, List.length_take]; rfl)) ?_; (with_reducible refine (serifref22_Over.calls k a0_0 a0_1 _ _ l0_2 a0_3 a0_4 a0_5 a0_6 _ _ l0_7 a0_8 a0_9 a0_10 t166 t167 t168 t171 _ ?side1 ?side2 ?side3 ?side4 A6.out).mono ?_); (case side1 => exact Kd.C_below HR0_2.out (by repeat (first | (with_reducible first | exact HB.out | apply below_alloc | apply pw_below_drewN | apply below_drew1 | refine below_set ?_ GE151.out | refine below_set ?_ GE158.out | refine below_set ?_ GE159.out) | exact HB.out))); (case side2 => exact HC0_2.out); (case side3 => exact Kd.C_below HR0_7.out (by repeat (first | (with_reducible first | exact HB.out | apply below_alloc | apply pw_below_drewN | apply below_drew1 | refine below_set ?_ GE151.out | refine below_set ?_ GE158.out | refine below_set ?_ GE159.out) | exact HB.out))); (case side4 => exact HC0_7.out); rintro e w29 ⟨v169, rfl, ho0, hb⟩; refine ⟨_, rfl, ?_⟩; have n0_ := Aside0.mk (Kd.R_elder' (by (with_reducible repeat (first | apply Kd.R_alloc | apply Kd.R_drewN | apply Kd.R_drew)); exact (Kd.R_mono (Kd.R_far (p := ⟨gb159, 4, none⟩) (Kd.R_types HO157.out BK159.out (by decide)) (fun _ hk => hk.2) (.slice Ao26 y163.length co26)) (fun _ h_ => h_.1))) (Kd.R_base ho0) hb); have n1_ := Aside0.mk (Kd.R_elder' (by (with_reducible repeat (first | apply Kd.R_alloc | apply Kd.R_drewN | apply Kd.R_drew)); exact (Kd.R_mono (Kd.R_far (p := ⟨gb159, 4, none⟩) (Kd.R_types HO165.out BK159.out (by decide)) (fun _ hk => hk.2) (.slice Ao26 y163.length co26)) (fun _ h_ => h_.1))) (Kd.R_base ho0) hb); have n2_ := Aside0.mk (Kd.R_lower (Kd.R_new' (Kd.R_new' ho0 (Kd.R_lt (by (with_reducible repeat (first | apply Kd.R_alloc | apply Kd.R_drewN | apply Kd.R_drew)); exact (Kd.R_mono (Kd.R_far (p := ⟨gb159, 4, none⟩) (Kd.R_types HO157.out BK159.out (by decide)) (fun _ hk => hk.2) (.slice Ao26 y163.length co26)) (fun _ h_ => h_.1))))) (Kd.R_lt (by (with_reducible repeat (first | apply Kd.R_alloc | apply Kd.R_drewN | apply Kd.R_drew)); exact (Kd.R_mono (Kd.R_far (p := ⟨gb159, 4, none⟩) (Kd.R_types HO165.out BK159.out (by decide)) (fun _ hk => hk.2) (.slice Ao26 y163.length co26)) (fun _ h_ => h_.1))))) (below_size (by repeat (first | (with_reducible first | exact HB.out | apply below_alloc | apply pw_below_drewN | apply below_drew1 | refine below_set ?_ GE151.out | refine below_set ?_ GE158.out | refine below_set ?_ GE159.out) | exact HB.out)))); have n3_ := Aside0.mk (blk_below (g := gb151) (o := .cells #[.int .i64 a0_0, .int .i64 a0_1, .slice A0_2 l0_2.length c0_2, .int .i64 a0_3, .int .i64 a0_4, .int .i64 a0_5, .int .i64 a0_6, .slice A0_7 l0_7.length c0_7, .int .i64 a0_8, .int .i64 a0_9, .int .u8 a0_10] 36 (0, 0)) (by (with_reducible repeat (first | refine blk_drewN ?_ _ | refine blk_drew ?_ | refine blk_alloc ?_ _)); refine blk_far ?_ NB151_159.out _; (with_reducible repeat (first | refine blk_drewN ?_ _ | refine blk_drew ?_ | refine blk_alloc ?_ _)); exact BK151.out) hb); have n4_ := Aside0.mk (blk_below (g := gb158) (o := .cells #[.int .i64 t153, .int .i64 t154, .slice Ao16 t155.length co16] 32 (0, 0)) (by (with_reducible repeat (first | refine blk_drewN ?_ _ | refine blk_drew ?_ | refine blk_alloc ?_ _)); refine blk_far ?_ NB158_159.out _; (with_reducible repeat (first | refine blk_drewN ?_ _ | refine blk_drew ?_ | refine blk_alloc ?_ _)); exact BK158.out) hb); have n5_ := Aside0.mk (blk_below (g := gb159) (o := .cells #[.int .i64 a0_3, .int .i64 a0_4, .int .i64 a0_5, .int .i64 a0_6, .slice Ao26 y163.length co26] 34 (0, 0)) (by (with_reducible repeat (first | refine blk_drewN ?_ _ | refine blk_drew ?_ | refine blk_alloc ?_ _)); refine blk_put (cs := #[.int .i64 a0_3, .int .i64 a0_4, .int .i64 a0_5, .int .i64 a0_6, .slice A0_7 l0_7.length c0_7]) ?_ 4 _ rfl; (with_reducible repeat (first | refine blk_drewN ?_ _ | refine blk_drew ?_ | refine blk_alloc ?_ _)); exact BK159.out) hb); have n6_ := Aside0.mk (below_step (by repeat (first | (with_reducible first | exact HB.out | apply below_alloc | apply pw_below_drewN | apply below_drew1 | refine below_set ?_ GE151.out | refine below_set ?_ GE158.out | refine below_set ?_ GE159.out) | exact HB.out)) hb); clear HO157; clear HO165; clear BK151; clear BK158; clear BK159; clear HB; have HO157 := n0_; have HO165 := n1_; have HO170 := n2_; have BK151 := n3_; have BK158 := n4_; have BK159 := n5_; have HB := n6_; clear n0_ n1_ n2_ n3_ n4_ n5_ n6_; (try clear hb); (try clear hb2); (try clear hk); (try clear hi); (try clear ho0)) | ((with_reducible refine gate_dst (N := 5) rfl ?_); refine box_event ?hg (N := 5) ?hd (cs := #[.int .i64 0, .int .i64 0, .slice none 0 0]) (t := 32) ?hr ?_; (case hd => rfl); (case hg => rfl); (case hr => first | (go_simp; done) | (go_simp; rfl)); intro gb172 hg w30 hbox hb; have n0_ := Aside0.mk (Kd.R_below (by (with_reducible repeat (first | apply Kd.R_alloc | apply Kd.R_drewN | apply Kd.R_drew)); exact HO157.out) hb); have n1_ := Aside0.mk (Kd.R_below (by (with_reducible repeat (first | apply Kd.R_alloc | apply Kd.R_drewN | apply Kd.R_drew)); exact HO165.out) hb); have n2_ := Aside0.mk (Kd.R_below (by (with_reducible repeat (first | apply Kd.R_alloc | apply Kd.R_drewN | apply Kd.R_drew)); exact HO170.out) hb); have n3_ := Aside0.mk (blk_below (g := gb151) (o := .cells #[.int .i64 a0_0, .int .i64 a0_1, .slice A0_2 l0_2.length c0_2, .int .i64 a0_3, .int .i64 a0_4, .int .i64 a0_5, .int .i64 a0_6, .slice A0_7 l0_7.length c0_7, .int .i64 a0_8, .int .i64 a0_9, .int .u8 a0_10] 36 (0, 0)) (by (with_reducible repeat (first | refine blk_drewN ?_ _ | refine blk_drew ?_ | refine blk_alloc ?_ _)); exact BK151.out) hb); have n4_ := Aside0.mk (blk_below (g := gb158) (o := .cells #[.int .i64 t153, .int .i64 t154, .slice Ao16 t155.length co16] 32 (0, 0)) (by (with_reducible repeat (first | refine blk_drewN ?_ _ | refine blk_drew ?_ | refine blk_alloc ?_ _)); exact BK158.out) hb); have n5_ := Aside0.mk (blk_below (g := gb159) (o := .cells #[.int .i64 a0_3, .int .i64 a0_4, .int .i64 a0_5, .int .i64 a0_6, .slice Ao26 y163.length co26] 34 (0, 0)) (by (with_reducible repeat (first | refine blk_drewN ?_ _ | refine blk_drew ?_ | refine blk_alloc ?_ _)); exact BK159.out) hb); have n6_ := Aside0.mk (below_step (by repeat (first | (with_reducible first | exact HB.out | apply below_alloc | apply pw_below_drewN | apply below_drew1 | refine below_set ?_ GE151.out | refine below_set ?_ GE158.out | refine below_set ?_ GE159.out) | exact HB.out)) hb); have n7_ := Aside0.mk (hbox); have n8_ := Aside0.mk ((by rw [hg]; exact (below_size (by repeat (first | (with_reducible first | exact HB.out | apply below_alloc | apply pw_below_drewN | apply below_drew1 | refine below_set ?_ GE151.out | refine below_set ?_ GE158.out | refine below_set ?_ GE159.out) | exact HB.out))) : w.heap.size ≤ gb172)); have n9_ := Aside0.mk ((by rw [hg]; exact (below_size (by repeat (first | (with_reducible first | exact HB.out | apply below_alloc | apply pw_below_drewN | apply below_drew1 | refine below_set ?_ GE151.out | refine below_set ?_ GE158.out | refine below_set ?_ GE159.out) | exact HB.out))) : w.heap.size ≤ gb172)); have n10_ := Aside0.mk ((by rw [hg]; exact Nat.ne_of_lt (blk_lt (g := gb151) (o := .cells #[.int .i64 a0_0, .int .i64 a0_1, .slice A0_2 l0_2.length c0_2, .int .i64 a0_3, .int .i64 a0_4, .int .i64 a0_5, .int .i64 a0_6, .slice A0_7 l0_7.length c0_7, .int .i64 a0_8, .int .i64 a0_9, .int .u8 a0_10] 36 (0, 0)) (by (with_reducible repeat (first | refine blk_drewN ?_ _ | refine blk_drew ?_ | refine blk_alloc ?_ _)); exact BK151.out)) : gb151 ≠ gb172)); have n11_ := Aside0.mk ((by rw [hg]; exact Nat.ne_of_gt (blk_lt (g := gb151) (o := .cells #[.int .i64 a0_0, .int .i64 a0_1, .slice A0_2 l0_2.length c0_2, .int .i64 a0_3, .int .i64 a0_4, .int .i64 a0_5, .int .i64 a0_6, .slice A0_7 l0_7.length c0_7, .int .i64 a0_8, .int .i64 a0_9, .int .u8 a0_10] 36 (0, 0)) (by (with_reducible repeat (first | refine blk_drewN ?_ _ | refine blk_drew ?_ | refine blk_alloc ?_ _)); exact BK151.out)) : gb172 ≠ gb151)); have n12_ := Aside0.mk ((by rw [hg]; exact Nat.ne_of_lt (blk_lt (g := gb158) (o := .cells #[.int .i64 t153, .int .i64 t154, .slice Ao16 t155.length co16] 32 (0, 0)) (by (with_reducible repeat (first | refine blk_drewN ?_ _ | refine blk_drew ?_ | refine blk_alloc ?_ _)); exact BK158.out)) : gb158 ≠ gb172)); have n13_ := Aside0.mk ((by rw [hg]; exact Nat.ne_of_gt (blk_lt (g := gb158) (o := .cells #[.int .i64 t153, .int .i64 t154, .slice Ao16 t155.length co16] 32 (0, 0)) (by (with_reducible repeat (first | refine blk_drewN ?_ _ | refine blk_drew ?_ | refine blk_alloc ?_ _)); exact BK158.out)) : gb172 ≠ gb158)); have n14_ := Aside0.mk ((by rw [hg]; exact Nat.ne_of_lt (blk_lt (g := gb159) (o := .cells #[.int .i64 a0_3, .int .i64 a0_4, .int .i64 a0_5, .int .i64 a0_6, .slice Ao26 y163.length co26] 34 (0, 0)) (by (with_reducible repeat (first | refine blk_drewN ?_ _ | refine blk_drew ?_ | refine blk_alloc ?_ _)); exact BK159.out)) : gb159 ≠ gb172)); have n15_ := Aside0.mk ((by rw [hg]; exact Nat.ne_of_gt (blk_lt (g := gb159) (o := .cells #[.int .i64 a0_3, .int .i64 a0_4, .int .i64 a0_5, .int .i64 a0_6, .slice Ao26 y163.length co26] 34 (0, 0)) (by (with_reducible repeat (first | refine blk_drewN ?_ _ | refine blk_drew ?_ | refine blk_alloc ?_ _)); exact BK159.out)) : gb172 ≠ gb159)); clear HO157; clear HO165; clear HO170; clear BK151; clear BK158; clear BK159; clear HB; have HO157 := n0_; have HO165 := n1_; have HO170 := n2_; have BK151 := n3_; have BK158 := n4_; have BK159 := n5_; have HB := n6_; have BK172 := n7_; have GW172 := n8_; have GE172 := n9_; have NB151_172 := n10_; have NB172_151 := n11_; have NB158_172 := n12_; have NB172_158 := n13_; have NB159_172 := n14_; have NB172_159 := n15_; clear n0_ n1_ n2_ n3_ n4_ n5_ n6_ n7_ n8_ n9_ n10_ n11_ n12_ n13_ n14_ n15_; clear hb hbox hg; have hnb31 := NB172_151.out; have hnc31 := NB151_172.out; have hnb32 := NB172_158.out; have hnc32 := NB158_172.out; have hnb33 := NB172_159.out; have hnc33 := NB159_172.out; have hcz34_0 : w30.cell? ⟨gb172, 0, none⟩ = some (.int .i64 0) := (blk_cell BK172.out 0).trans rfl; have hcz34_1 : w30.cell? ⟨gb172, 1, none⟩ = some (.int .i64 0) := (blk_cell BK172.out 1).trans rfl; have hcz34_2 : w30.cell? ⟨gb172, 2, none⟩ = some (.slice none 0 0) := (blk_cell BK172.out 2).trans rfl; have hfz34_0 := blk_frozen BK172.out 0; have hfz34_1 := blk_frozen BK172.out 1; have hfz34_2 := blk_frozen BK172.out 2; obtain ⟨Ao35, co35, eo35⟩ := Kd.R_slice HO170.out; subst eo35; have hcz36_0 : w30.cell? ⟨gb158, 0, none⟩ = some (.int .i64 t153) := (blk_cell BK158.out 0).trans rfl; have hcz36_1 : w30.cell? ⟨gb158, 1, none⟩ = some (.int .i64 t154) := (blk_cell BK158.out 1).trans rfl; have hcz36_2 : w30.cell? ⟨gb158, 2, none⟩ = some (.slice Ao16 t155.length co16) := (blk_cell BK158.out 2).trans rfl; have hfz36_0 := blk_frozen BK158.out 0; have hfz36_1 := blk_frozen BK158.out 1; have hfz36_2 := blk_frozen BK158.out 2; have hcz37_0 : w30.cell? ⟨gb159, 0, none⟩ = some (.int .i64 a0_3) := (blk_cell BK159.out 0).trans rfl; have hcz37_1 : w30.cell? ⟨gb159, 1, none⟩ = some (.int .i64 a0_4) := (blk_cell BK159.out 1).trans rfl; have hcz37_2 : w30.cell? ⟨gb159, 2, none⟩ = some (.int .i64 a0_5) := (blk_cell BK159.out 2).trans rfl; have hcz37_3 : w30.cell? ⟨gb159, 3, none⟩ = some (.int .i64 a0_6) := (blk_cell BK159.out 3).trans rfl; have hcz37_4 : w30.cell? ⟨gb159, 4, none⟩ = some (.slice Ao26 y163.length co26) := (blk_cell BK159.out 4).trans rfl; have hfz37_0 := blk_frozen BK159.out 0; have hfz37_1 := blk_frozen BK159.out 1; have hfz37_2 := blk_frozen BK159.out 2; have hfz37_3 := blk_frozen BK159.out 3; have hfz37_4 := blk_frozen BK159.out 4; have hcz38_0 : w30.cell? ⟨gb151, 0, none⟩ = some (.int .i64 a0_0) := (blk_cell BK151.out 0).trans rfl; have hcz38_1 : w30.cell? ⟨gb151, 1, none⟩ = some (.int .i64 a0_1) := (blk_cell BK151.out 1).trans rfl; have hcz38_2 : w30.cell? ⟨gb151, 2, none⟩ = some (.slice A0_2 l0_2.length c0_2) := (blk_cell BK151.out 2).trans rfl; have hcz38_3 : w30.cell? ⟨gb151, 3, none⟩ = some (.int .i64 a0_3) := (blk_cell BK151.out 3).trans rfl; have hcz38_4 : w30.cell? ⟨gb151, 4, none⟩ = some (.int .i64 a0_4) := (blk_cell BK151.out 4).trans rfl; have hcz38_5 : w30.cell? ⟨gb151, 5, none⟩ = some (.int .i64 a0_5) := (blk_cell BK151.out 5).trans rfl; have hcz38_6 : w30.cell? ⟨gb151, 6, none⟩ = some (.int .i64 a0_6) := (blk_cell BK151.out 6).trans rfl; have hcz38_7 : w30.cell? ⟨gb151, 7, none⟩ = some (.slice A0_7 l0_7.length c0_7) := (blk_cell BK151.out 7).trans rfl; have hcz38_8 : w30.cell? ⟨gb151, 8, none⟩ = some (.int .i64 a0_8) := (blk_cell BK151.out 8).trans rfl; have hcz38_9 : w30.cell? ⟨gb151, 9, none⟩ = some (.int .i64 a0_9) := (blk_cell BK151.out 9).trans rfl; have hcz38_10 : w30.cell? ⟨gb151, 10, none⟩ = some (.int .u8 a0_10) := (blk_cell BK151.out 10).trans rfl; have hfz38_0 := blk_frozen BK151.out 0; have hfz38_1 := blk_frozen BK151.out 1; have hfz38_2 := blk_frozen BK151.out 2; have hfz38_3 := blk_frozen BK151.out 3; have hfz38_4 := blk_frozen BK151.out 4; have hfz38_5 := blk_frozen BK151.out 5; have hfz38_6 := blk_frozen BK151.out 6; have hfz38_7 := blk_frozen BK151.out 7; have hfz38_8 := blk_frozen BK151.out 8; have hfz38_9 := blk_frozen BK151.out 9; have hfz38_10 := blk_frozen BK151.out 10) | ((with_reducible refine gate_callee (f := 25) rfl ?_); refine goesL_ (some 45) rfl rfl Try.func25 (by kernel_rfl) rfl #[.agg #[.int .i64 t153, .int .i64 t154, .slice Ao16 t155.length co16], .agg #[.int .i64 a0_3, .int .i64 a0_4, .int .i64 a0_5, .int .i64 a0_6, .slice Ao26 y163.length co26], .int .i64 a0_8, .int .i64 a0_9, .int .u8 a0_10] rfl (by (try simp only [List.map_toArray, List.map_cons, List.map_nil]); first | done | rfl | (simp only [List.length_drop, List.length_take]; rfl)) ?_; (with_reducible refine (blend_Over.calls k t153 t154 _ _ t155 a0_3 a0_4 a0_5 a0_6 _ _ y163 a0_8 a0_9 a0_10 t173 t174 t175 t178 _ ?side1 ?side2 ?side3 ?side4 A7.out).mono ?_); (case side1 => refine (Kd.R_reads' (e := 5) (base := w.heap.size) (ok := fun k_ => ((True ∧ some k_ ≠ (.slice Ao26 y163.length co26 : Value).ownBlock) ∧ some k_ ≠ (.slice Ao35 t168.length co35 : Value).ownBlock)) (n := t155.length) (c := co16) ?_).2.2; exact (by (with_reducible repeat (first | apply Kd.R_alloc | apply Kd.R_drewN | apply Kd.R_drew)); exact (Kd.R_mono (Kd.R_far (p := ⟨gb172, 2, none⟩) (Kd.R_far (p := ⟨gb172, 1, none⟩) (Kd.R_far (p := ⟨gb172, 0, none⟩) (Kd.R_types HO157.out BK172.out (by decide)) (fun _ hk => hk.2) (.int .i64 t166)) (fun _ hk => hk.2) (.int .i64 t167)) (fun _ hk => hk.2) (.slice Ao35 t168.length co35)) (fun _ h_ => h_.1)))); (case side2 => exact (Kd.R_reads' HO157.out).2.1); (case side3 => refine (Kd.R_reads' (e := 5) (base := w.heap.size) (ok := fun k_ => (some k_ ≠ (.slice Ao16 t155.length co16 : Value).ownBlock ∧ some k_ ≠ (.slice Ao35 t168.length co35 : Value).ownBlock)) (n := y163.length) (c := co26) ?_).2.2; exact (by (with_reducible repeat (first | apply Kd.R_alloc | apply Kd.R_drewN | apply Kd.R_drew)); exact (Kd.R_mono (Kd.R_far (p := ⟨gb172, 2, none⟩) (Kd.R_far (p := ⟨gb172, 1, none⟩) (Kd.R_far (p := ⟨gb172, 0, none⟩) (Kd.R_types HO165.out BK172.out (by decide)) (fun _ hk => hk.2) (.int .i64 t166)) (fun _ hk => hk.2) (.int .i64 t167)) (fun _ hk => hk.2) (.slice Ao35 t168.length co35)) (fun _ h_ => h_.1)))); (case side4 => exact (Kd.R_reads' HO165.out).2.1); rintro e w39 ⟨v176, rfl, ho0, hb⟩; refine ⟨_, rfl, ?_⟩; have n0_ := Aside0.mk (Kd.R_elder' (by (with_reducible repeat (first | apply Kd.R_alloc | apply Kd.R_drewN | apply Kd.R_drew)); exact (Kd.R_mono (Kd.R_far (p := ⟨gb172, 2, none⟩) (Kd.R_far (p := ⟨gb172, 1, none⟩) (Kd.R_far (p := ⟨gb172, 0, none⟩) (Kd.R_types HO157.out BK172.out (by decide)) (fun _ hk => hk.2) (.int .i64 t166)) (fun _ hk => hk.2) (.int .i64 t167)) (fun _ hk => hk.2) (.slice Ao35 t168.length co35)) (fun _ h_ => h_.1))) (Kd.R_base ho0) hb); have n1_ := Aside0.mk (Kd.R_elder' (by (with_reducible repeat (first | apply Kd.R_alloc | apply Kd.R_drewN | apply Kd.R_drew)); exact (Kd.R_mono (Kd.R_far (p := ⟨gb172, 2, none⟩) (Kd.R_far (p := ⟨gb172, 1, none⟩) (Kd.R_far (p := ⟨gb172, 0, none⟩) (Kd.R_types HO165.out BK172.out (by decide)) (fun _ hk => hk.2) (.int .i64 t166)) (fun _ hk => hk.2) (.int .i64 t167)) (fun _ hk => hk.2) (.slice Ao35 t168.length co35)) (fun _ h_ => h_.1))) (Kd.R_base ho0) hb); have n2_ := Aside0.mk (Kd.R_elder' (by (with_reducible repeat (first | apply Kd.R_alloc | apply Kd.R_drewN | apply Kd.R_drew)); exact (Kd.R_mono (Kd.R_far (p := ⟨gb172, 2, none⟩) (Kd.R_far (p := ⟨gb172, 1, none⟩) (Kd.R_far (p := ⟨gb172, 0, none⟩) (Kd.R_types HO170.out BK172.out (by decide)) (fun _ hk => hk.2) (.int .i64 t166)) (fun _ hk => hk.2) (.int .i64 t167)) (fun _ hk => hk.2) (.slice Ao35 t168.length co35)) (fun _ h_ => h_.1))) (Kd.R_base ho0) hb); have n3_ := Aside0.mk (Kd.R_lower (Kd.R_new' (Kd.R_new' (Kd.R_new' ho0 (Kd.R_lt (by (with_reducible repeat (first | apply Kd.R_alloc | apply Kd.R_drewN | apply Kd.R_drew)); exact (Kd.R_mono (Kd.R_far (p := ⟨gb172, 2, none⟩) (Kd.R_far (p := ⟨gb172, 1, none⟩) (Kd.R_far (p := ⟨gb172, 0, none⟩) (Kd.R_types HO157.out BK172.out (by decide)) (fun _ hk => hk.2) (.int .i64 t166)) (fun _ hk => hk.2) (.int .i64 t167)) (fun _ hk => hk.2) (.slice Ao35 t168.length co35)) (fun _ h_ => h_.1))))) (Kd.R_lt (by (with_reducible repeat (first | apply Kd.R_alloc | apply Kd.R_drewN | apply Kd.R_drew)); exact (Kd.R_mono (Kd.R_far (p := ⟨gb172, 2, none⟩) (Kd.R_far (p := ⟨gb172, 1, none⟩) (Kd.R_far (p := ⟨gb172, 0, none⟩) (Kd.R_types HO165.out BK172.out (by decide)) (fun _ hk => hk.2) (.int .i64 t166)) (fun _ hk => hk.2) (.int .i64 t167)) (fun _ hk => hk.2) (.slice Ao35 t168.length co35)) (fun _ h_ => h_.1))))) (Kd.R_lt (by (with_reducible repeat (first | apply Kd.R_alloc | apply Kd.R_drewN | apply Kd.R_drew)); exact (Kd.R_mono (Kd.R_far (p := ⟨gb172, 2, none⟩) (Kd.R_far (p := ⟨gb172, 1, none⟩) (Kd.R_far (p := ⟨gb172, 0, none⟩) (Kd.R_types HO170.out BK172.out (by decide)) (fun _ hk => hk.2) (.int .i64 t166)) (fun _ hk => hk.2) (.int .i64 t167)) (fun _ hk => hk.2) (.slice Ao35 t168.length co35)) (fun _ h_ => h_.1))))) (below_size (by repeat (first | (with_reducible first | exact HB.out | apply below_alloc | apply pw_below_drewN | apply below_drew1 | refine below_set ?_ GE151.out | refine below_set ?_ GE158.out | refine below_set ?_ GE159.out | refine below_set ?_ GE172.out) | exact HB.out)))); have n4_ := Aside0.mk (blk_below (g := gb151) (o := .cells #[.int .i64 a0_0, .int .i64 a0_1, .slice A0_2 l0_2.length c0_2, .int .i64 a0_3, .int .i64 a0_4, .int .i64 a0_5, .int .i64 a0_6, .slice A0_7 l0_7.length c0_7, .int .i64 a0_8, .int .i64 a0_9, .int .u8 a0_10] 36 (0, 0)) (by (with_reducible repeat (first | refine blk_drewN ?_ _ | refine blk_drew ?_ | refine blk_alloc ?_ _)); refine blk_far ?_ NB151_172.out _; (with_reducible repeat (first | refine blk_drewN ?_ _ | refine blk_drew ?_ | refine blk_alloc ?_ _)); refine blk_far ?_ NB151_172.out _; (with_reducible repeat (first | refine blk_drewN ?_ _ | refine blk_drew ?_ | refine blk_alloc ?_ _)); refine blk_far ?_ NB151_172.out _; (with_reducible repeat (first | refine blk_drewN ?_ _ | refine blk_drew ?_ | refine blk_alloc ?_ _)); exact BK151.out) hb); have n5_ := Aside0.mk (blk_below (g := gb158) (o := .cells #[.int .i64 t153, .int .i64 t154, .slice Ao16 t155.length co16] 32 (0, 0)) (by (with_reducible repeat (first | refine blk_drewN ?_ _ | refine blk_drew ?_ | refine blk_alloc ?_ _)); refine blk_far ?_ NB158_172.out _; (with_reducible repeat (first | refine blk_drewN ?_ _ | refine blk_drew ?_ | refine blk_alloc ?_ _)); refine blk_far ?_ NB158_172.out _; (with_reducible repeat (first | refine blk_drewN ?_ _ | refine blk_drew ?_ | refine blk_alloc ?_ _)); refine blk_far ?_ NB158_172.out _; (with_reducible repeat (first | refine blk_drewN ?_ _ | refine blk_drew ?_ | refine blk_alloc ?_ _)); exact BK158.out) hb); have n6_ := Aside0.mk (blk_below (g := gb159) (o := .cells #[.int .i64 a0_3, .int .i64 a0_4, .int .i64 a0_5, .int .i64 a0_6, .slice Ao26 y163.length co26] 34 (0, 0)) (by (with_reducible repeat (first | refine blk_drewN ?_ _ | refine blk_drew ?_ | refine blk_alloc ?_ _)); refine blk_far ?_ NB159_172.out _; (with_reducible repeat (first | refine blk_drewN ?_ _ | refine blk_drew ?_ | refine blk_alloc ?_ _)); refine blk_far ?_ NB159_172.out _; (with_reducible repeat (first | refine blk_drewN ?_ _ | refine blk_drew ?_ | refine blk_alloc ?_ _)); refine blk_far ?_ NB159_172.out _; (with_reducible repeat (first | refine blk_drewN ?_ _ | refine blk_drew ?_ | refine blk_alloc ?_ _)); exact BK159.out) hb); have n7_ := Aside0.mk (blk_below (g := gb172) (o := .cells #[.int .i64 t166, .int .i64 t167, .slice Ao35 t168.length co35] 32 (0, 0)) (by (with_reducible repeat (first | refine blk_drewN ?_ _ | refine blk_drew ?_ | refine blk_alloc ?_ _)); refine blk_put (cs := #[.int .i64 t166, .int .i64 t167, .slice none 0 0]) ?_ 2 _ rfl; (with_reducible repeat (first | refine blk_drewN ?_ _ | refine blk_drew ?_ | refine blk_alloc ?_ _)); refine blk_put (cs := #[.int .i64 t166, .int .i64 0, .slice none 0 0]) ?_ 1 _ rfl; (with_reducible repeat (first | refine blk_drewN ?_ _ | refine blk_drew ?_ | refine blk_alloc ?_ _)); refine blk_put (cs := #[.int .i64 0, .int .i64 0, .slice none 0 0]) ?_ 0 _ rfl; (with_reducible repeat (first | refine blk_drewN ?_ _ | refine blk_drew ?_ | refine blk_alloc ?_ _)); exact BK172.out) hb); have n8_ := Aside0.mk (below_step (by repeat (first | (with_reducible first | exact HB.out | apply below_alloc | apply pw_below_drewN | apply below_drew1 | refine below_set ?_ GE151.out | refine below_set ?_ GE158.out | refine below_set ?_ GE159.out | refine below_set ?_ GE172.out) | exact HB.out)) hb); clear HO157; clear HO165; clear HO170; clear BK151; clear BK158; clear BK159; clear BK172; clear HB; have HO157 := n0_; have HO165 := n1_; have HO170 := n2_; have HO177 := n3_; have BK151 := n4_; have BK158 := n5_; have BK159 := n6_; have BK172 := n7_; have HB := n8_; clear n0_ n1_ n2_ n3_ n4_ n5_ n6_ n7_ n8_; (try clear hb); (try clear hb2); (try clear hk); (try clear hi); (try clear ho0)) | ((with_reducible refine gate_dst (N := 7) rfl ?_); refine box_event ?hg (N := 7) ?hd (cs := #[.int .i64 0, .int .i64 0, .slice none 0 0]) (t := 32) ?hr ?_; (case hd => rfl); (case hg => rfl); (case hr => first | (go_simp; done) | (go_simp; rfl)); intro gb179 hg w40 hbox hb; have n0_ := Aside0.mk (Kd.R_below (by (with_reducible repeat (first | apply Kd.R_alloc | apply Kd.R_drewN | apply Kd.R_drew)); exact HO157.out) hb); have n1_ := Aside0.mk (Kd.R_below (by (with_reducible repeat (first | apply Kd.R_alloc | apply Kd.R_drewN | apply Kd.R_drew)); exact HO165.out) hb); have n2_ := Aside0.mk (Kd.R_below (by (with_reducible repeat (first | apply Kd.R_alloc | apply Kd.R_drewN | apply Kd.R_drew)); exact HO170.out) hb); have n3_ := Aside0.mk (Kd.R_below (by (with_reducible repeat (first | apply Kd.R_alloc | apply Kd.R_drewN | apply Kd.R_drew)); exact HO177.out) hb); have n4_ := Aside0.mk (blk_below (g := gb151) (o := .cells #[.int .i64 a0_0, .int .i64 a0_1, .slice A0_2 l0_2.length c0_2, .int .i64 a0_3, .int .i64 a0_4, .int .i64 a0_5, .int .i64 a0_6, .slice A0_7 l0_7.length c0_7, .int .i64 a0_8, .int .i64 a0_9, .int .u8 a0_10] 36 (0, 0)) (by (with_reducible repeat (first | refine blk_drewN ?_ _ | refine blk_drew ?_ | refine blk_alloc ?_ _)); exact BK151.out) hb); have n5_ := Aside0.mk (blk_below (g := gb158) (o := .cells #[.int .i64 t153, .int .i64 t154, .slice Ao16 t155.length co16] 32 (0, 0)) (by (with_reducible repeat (first | refine blk_drewN ?_ _ | refine blk_drew ?_ | refine blk_alloc ?_ _)); exact BK158.out) hb); have n6_ := Aside0.mk (blk_below (g := gb159) (o := .cells #[.int .i64 a0_3, .int .i64 a0_4, .int .i64 a0_5, .int .i64 a0_6, .slice Ao26 y163.length co26] 34 (0, 0)) (by (with_reducible repeat (first | refine blk_drewN ?_ _ | refine blk_drew ?_ | refine blk_alloc ?_ _)); exact BK159.out) hb); have n7_ := Aside0.mk (blk_below (g := gb172) (o := .cells #[.int .i64 t166, .int .i64 t167, .slice Ao35 t168.length co35] 32 (0, 0)) (by (with_reducible repeat (first | refine blk_drewN ?_ _ | refine blk_drew ?_ | refine blk_alloc ?_ _)); exact BK172.out) hb); have n8_ := Aside0.mk (below_step (by repeat (first | (with_reducible first | exact HB.out | apply below_alloc | apply pw_below_drewN | apply below_drew1 | refine below_set ?_ GE151.out | refine below_set ?_ GE158.out | refine below_set ?_ GE159.out | refine below_set ?_ GE172.out) | exact HB.out)) hb); have n9_ := Aside0.mk (hbox); have n10_ := Aside0.mk ((by rw [hg]; exact (below_size (by repeat (first | (with_reducible first | exact HB.out | apply below_alloc | apply pw_below_drewN | apply below_drew1 | refine below_set ?_ GE151.out | refine below_set ?_ GE158.out | refine below_set ?_ GE159.out | refine below_set ?_ GE172.out) | exact HB.out))) : w.heap.size ≤ gb179)); have n11_ := Aside0.mk ((by rw [hg]; exact (below_size (by repeat (first | (with_reducible first | exact HB.out | apply below_alloc | apply pw_below_drewN | apply below_drew1 | refine below_set ?_ GE151.out | refine below_set ?_ GE158.out | refine below_set ?_ GE159.out | refine below_set ?_ GE172.out) | exact HB.out))) : w.heap.size ≤ gb179)); have n12_ := Aside0.mk ((by rw [hg]; exact Nat.ne_of_lt (blk_lt (g := gb151) (o := .cells #[.int .i64 a0_0, .int .i64 a0_1, .slice A0_2 l0_2.length c0_2, .int .i64 a0_3, .int .i64 a0_4, .int .i64 a0_5, .int .i64 a0_6, .slice A0_7 l0_7.length c0_7, .int .i64 a0_8, .int .i64 a0_9, .int .u8 a0_10] 36 (0, 0)) (by (with_reducible repeat (first | refine blk_drewN ?_ _ | refine blk_drew ?_ | refine blk_alloc ?_ _)); exact BK151.out)) : gb151 ≠ gb179)); have n13_ := Aside0.mk ((by rw [hg]; exact Nat.ne_of_gt (blk_lt (g := gb151) (o := .cells #[.int .i64 a0_0, .int .i64 a0_1, .slice A0_2 l0_2.length c0_2, .int .i64 a0_3, .int .i64 a0_4, .int .i64 a0_5, .int .i64 a0_6, .slice A0_7 l0_7.length c0_7, .int .i64 a0_8, .int .i64 a0_9, .int .u8 a0_10] 36 (0, 0)) (by (with_reducible repeat (first | refine blk_drewN ?_ _ | refine blk_drew ?_ | refine blk_alloc ?_ _)); exact BK151.out)) : gb179 ≠ gb151)); have n14_ := Aside0.mk ((by rw [hg]; exact Nat.ne_of_lt (blk_lt (g := gb158) (o := .cells #[.int .i64 t153, .int .i64 t154, .slice Ao16 t155.length co16] 32 (0, 0)) (by (with_reducible repeat (first | refine blk_drewN ?_ _ | refine blk_drew ?_ | refine blk_alloc ?_ _)); exact BK158.out)) : gb158 ≠ gb179)); have n15_ := Aside0.mk ((by rw [hg]; exact Nat.ne_of_gt (blk_lt (g := gb158) (o := .cells #[.int .i64 t153, .int .i64 t154, .slice Ao16 t155.length co16] 32 (0, 0)) (by (with_reducible repeat (first | refine blk_drewN ?_ _ | refine blk_drew ?_ | refine blk_alloc ?_ _)); exact BK158.out)) : gb179 ≠ gb158)); have n16_ := Aside0.mk ((by rw [hg]; exact Nat.ne_of_lt (blk_lt (g := gb159) (o := .cells #[.int .i64 a0_3, .int .i64 a0_4, .int .i64 a0_5, .int .i64 a0_6, .slice Ao26 y163.length co26] 34 (0, 0)) (by (with_reducible repeat (first | refine blk_drewN ?_ _ | refine blk_drew ?_ | refine blk_alloc ?_ _)); exact BK159.out)) : gb159 ≠ gb179)); have n17_ := Aside0.mk ((by rw [hg]; exact Nat.ne_of_gt (blk_lt (g := gb159) (o := .cells #[.int .i64 a0_3, .int .i64 a0_4, .int .i64 a0_5, .int .i64 a0_6, .slice Ao26 y163.length co26] 34 (0, 0)) (by (with_reducible repeat (first | refine blk_drewN ?_ _ | refine blk_drew ?_ | refine blk_alloc ?_ _)); exact BK159.out)) : gb179 ≠ gb159)); have n18_ := Aside0.mk ((by rw [hg]; exact Nat.ne_of_lt (blk_lt (g := gb172) (o := .cells #[.int .i64 t166, .int .i64 t167, .slice Ao35 t168.length co35] 32 (0, 0)) (by (with_reducible repeat (first | refine blk_drewN ?_ _ | refine blk_drew ?_ | refine blk_alloc ?_ _)); exact BK172.out)) : gb172 ≠ gb179)); have n19_ := Aside0.mk ((by rw [hg]; exact Nat.ne_of_gt (blk_lt (g := gb172) (o := .cells #[.int .i64 t166, .int .i64 t167, .slice Ao35 t168.length co35] 32 (0, 0)) (by (with_reducible repeat (first | refine blk_drewN ?_ _ | refine blk_drew ?_ | refine blk_alloc ?_ _)); exact BK172.out)) : gb179 ≠ gb172)); clear HO157; clear HO165; clear HO170; clear HO177; clear BK151; clear BK158; clear BK159; clear BK172; clear HB; have HO157 := n0_; have HO165 := n1_; have HO170 := n2_; have HO177 := n3_; have BK151 := n4_; have BK158 := n5_; have BK159 := n6_; have BK172 := n7_; have HB := n8_; have BK179 := n9_; have GW179 := n10_; have GE179 := n11_; have NB151_179 := n12_; have NB179_151 := n13_; have NB158_179 := n14_; have NB179_158 := n15_; have NB159_179 := n16_; have NB179_159 := n17_; have NB172_179 := n18_; have NB179_172 := n19_; clear n0_ n1_ n2_ n3_ n4_ n5_ n6_ n7_ n8_ n9_ n10_ n11_ n12_ n13_ n14_ n15_ n16_ n17_ n18_ n19_; clear hb hbox hg; have hnb41 := NB179_151.out; have hnc41 := NB151_179.out; have hnb42 := NB179_158.out; have hnc42 := NB158_179.out; have hnb43 := NB179_159.out; have hnc43 := NB159_179.out; have hnb44 := NB179_172.out; have hnc44 := NB172_179.out; have hcz45_0 : w40.cell? ⟨gb179, 0, none⟩ = some (.int .i64 0) := (blk_cell BK179.out 0).trans rfl; have hcz45_1 : w40.cell? ⟨gb179, 1, none⟩ = some (.int .i64 0) := (blk_cell BK179.out 1).trans rfl; have hcz45_2 : w40.cell? ⟨gb179, 2, none⟩ = some (.slice none 0 0) := (blk_cell BK179.out 2).trans rfl; have hfz45_0 := blk_frozen BK179.out 0; have hfz45_1 := blk_frozen BK179.out 1; have hfz45_2 := blk_frozen BK179.out 2; obtain ⟨Ao46, co46, eo46⟩ := Kd.R_slice HO177.out; subst eo46))
      (try simp only [Act.put, List.setIfInBounds_toArray, List.set_cons_zero, List.set_cons_succ])
      go_cut [56] (fun v56 wc => ∃ (kq : Nat) (x56_7 : Bool), v56 = .bool x56_7 ∧ Aside0 (seriflaw22_BlendOvers.j0 kq x56_7 a0_0 a0_1 l0_2 a0_3 a0_4 a0_5 a0_6 l0_7 a0_8 a0_9 a0_10 t153 t154 t155 a0_3 a0_4 a0_5 a0_6 y163 t173 t174 t175 = some r) ∧ Aside0 (kq ≤ k) ∧ Aside0 (Kd.R (Kd.int .u8) 5 wc w.heap.size (fun k_ => some k_ ≠ ((.slice Ao26 y163.length co26) : Value).ownBlock ∧ some k_ ≠ ((.slice Ao35 t168.length co35) : Value).ownBlock ∧ some k_ ≠ ((.slice Ao46 t175.length co46) : Value).ownBlock) (.slice Ao16 t155.length co16) t155) ∧ Aside0 (Kd.R (Kd.int .u8) 5 wc w.heap.size (fun k_ => some k_ ≠ ((.slice Ao16 t155.length co16) : Value).ownBlock ∧ some k_ ≠ ((.slice Ao35 t168.length co35) : Value).ownBlock ∧ some k_ ≠ ((.slice Ao46 t175.length co46) : Value).ownBlock) (.slice Ao26 y163.length co26) y163) ∧ Aside0 (Kd.R (Kd.int .u8) 5 wc w.heap.size (fun k_ => some k_ ≠ ((.slice Ao16 t155.length co16) : Value).ownBlock ∧ some k_ ≠ ((.slice Ao26 y163.length co26) : Value).ownBlock ∧ some k_ ≠ ((.slice Ao46 t175.length co46) : Value).ownBlock) (.slice Ao35 t168.length co35) t168) ∧ Aside0 (Kd.R (Kd.int .u8) 5 wc w.heap.size (fun k_ => some k_ ≠ ((.slice Ao16 t155.length co16) : Value).ownBlock ∧ some k_ ≠ ((.slice Ao26 y163.length co26) : Value).ownBlock ∧ some k_ ≠ ((.slice Ao35 t168.length co35) : Value).ownBlock) (.slice Ao46 t175.length co46) t175) ∧ Aside0 (wc.heap[gb151]? = some (.cells #[.int .i64 a0_0, .int .i64 a0_1, (.slice A0_2 l0_2.length c0_2), .int .i64 a0_3, .int .i64 a0_4, .int .i64 a0_5, .int .i64 a0_6, (.slice A0_7 l0_7.length c0_7), .int .i64 a0_8, .int .i64 a0_9, .int .u8 a0_10] 36 (0, 0))) ∧ Aside0 (wc.heap[gb158]? = some (.cells #[.int .i64 t153, .int .i64 t154, (.slice Ao16 t155.length co16)] 32 (0, 0))) ∧ Aside0 (wc.heap[gb159]? = some (.cells #[.int .i64 a0_3, .int .i64 a0_4, .int .i64 a0_5, .int .i64 a0_6, (.slice Ao26 y163.length co26)] 34 (0, 0))) ∧ Aside0 (wc.heap[gb172]? = some (.cells #[.int .i64 t166, .int .i64 t167, (.slice Ao35 t168.length co35)] 32 (0, 0))) ∧ Aside0 (wc.heap[gb179]? = some (.cells #[.int .i64 t173, .int .i64 t174, (.slice Ao46 t175.length co46)] 32 (0, 0))) ∧ Aside0 (Below w.heap.size w wc))
      case first =>
        have H := HC8.out
        clear HC8
        by_cases c47 : t178 = t171
        · rw [if_pos c47] at H
          have c47b0 : (t178 == t171) = true := beq_iff_eq.mpr c47
          have c47b1 : (t178 != t171) = false := bne_eq_false_iff_eq.mpr c47
          clear c47
          (first | rw [c47b0] | (simp only [i64_w, i32_w]; rw [c47b0]) | skip)
          replace H := Option.bind_eq_some_iff.mp H
          obtain ⟨t180, A480, H⟩ := H
          replace H : (seriflaw22_BlendOvers.j0 k (!t180) a0_0 a0_1 l0_2 a0_3 a0_4 a0_5 a0_6 l0_7 a0_8 a0_9 a0_10 t153 t154 t155 a0_3 a0_4 a0_5 a0_6 y163 t173 t174 t175) = some r := H
          have A48 := Aside0.mk A480
          clear A480
          have H' := Aside0.mk H
          clear H
          have hnb49 := NB179_151.out
          have hnc49 := NB151_179.out
          have hnb50 := NB179_158.out
          have hnc50 := NB158_179.out
          have hnb51 := NB179_159.out
          have hnc51 := NB159_179.out
          have hnb52 := NB179_172.out
          have hnc52 := NB172_179.out
          have hcz53_0 : w40.cell? ⟨gb179, 0, none⟩ = some (.int .i64 0) := (blk_cell BK179.out 0).trans rfl
          have hcz53_1 : w40.cell? ⟨gb179, 1, none⟩ = some (.int .i64 0) := (blk_cell BK179.out 1).trans rfl
          have hcz53_2 : w40.cell? ⟨gb179, 2, none⟩ = some (.slice none 0 0) := (blk_cell BK179.out 2).trans rfl
          have hfz53_0 := blk_frozen BK179.out 0
          have hfz53_1 := blk_frozen BK179.out 1
          have hfz53_2 := blk_frozen BK179.out 2
          have hnb54 := NB172_151.out
          have hnc54 := NB151_172.out
          have hnb55 := NB172_158.out
          have hnc55 := NB158_172.out
          have hnb56 := NB172_159.out
          have hnc56 := NB159_172.out
          have hcz57_0 : w40.cell? ⟨gb172, 0, none⟩ = some (.int .i64 t166) := (blk_cell BK172.out 0).trans rfl
          have hcz57_1 : w40.cell? ⟨gb172, 1, none⟩ = some (.int .i64 t167) := (blk_cell BK172.out 1).trans rfl
          have hcz57_2 : w40.cell? ⟨gb172, 2, none⟩ = some (.slice Ao35 t168.length co35) := (blk_cell BK172.out 2).trans rfl
          have hfz57_0 := blk_frozen BK172.out 0
          have hfz57_1 := blk_frozen BK172.out 1
          have hfz57_2 := blk_frozen BK172.out 2
          go_wp2_with (first | (go_at_call 26; (with_reducible refine (serifref22_Same.calls t173 t174 _ _ t175 t166 t167 _ _ t168 t180 _ ?side1 ?side2 ?side3 ?side4 A48.out).mono ?_); (case side1 => refine (Kd.R_reads' (e := 5) (base := w.heap.size) (ok := fun k_ => (((True ∧ some k_ ≠ (.slice Ao16 t155.length co16 : Value).ownBlock) ∧ some k_ ≠ (.slice Ao26 y163.length co26 : Value).ownBlock) ∧ some k_ ≠ (.slice Ao35 t168.length co35 : Value).ownBlock)) (n := t175.length) (c := co46) ?_).2.2; exact (by (with_reducible repeat (first | apply Kd.R_alloc | apply Kd.R_drewN | apply Kd.R_drew)); exact (Kd.R_mono (Kd.R_far (p := ⟨gb179, 2, none⟩) (Kd.R_far (p := ⟨gb179, 1, none⟩) (Kd.R_far (p := ⟨gb179, 0, none⟩) (Kd.R_types HO177.out BK179.out (by decide)) (fun _ hk => hk.2) (.int .i64 t173)) (fun _ hk => hk.2) (.int .i64 t174)) (fun _ hk => hk.2) (.slice Ao46 t175.length co46)) (fun _ h_ => h_.1)))); (case side2 => exact (Kd.R_reads' HO177.out).2.1); (case side3 => refine (Kd.R_reads' (e := 5) (base := w.heap.size) (ok := fun k_ => (((True ∧ some k_ ≠ (.slice Ao16 t155.length co16 : Value).ownBlock) ∧ some k_ ≠ (.slice Ao26 y163.length co26 : Value).ownBlock) ∧ some k_ ≠ (.slice Ao46 t175.length co46 : Value).ownBlock)) (n := t168.length) (c := co35) ?_).2.2; exact (by (with_reducible repeat (first | apply Kd.R_alloc | apply Kd.R_drewN | apply Kd.R_drew)); exact (Kd.R_mono (Kd.R_far (p := ⟨gb179, 2, none⟩) (Kd.R_far (p := ⟨gb179, 1, none⟩) (Kd.R_far (p := ⟨gb179, 0, none⟩) (Kd.R_types HO170.out BK179.out (by decide)) (fun _ hk => hk.2) (.int .i64 t173)) (fun _ hk => hk.2) (.int .i64 t174)) (fun _ hk => hk.2) (.slice Ao46 t175.length co46)) (fun _ h_ => h_.1)))); (case side4 => exact (Kd.R_reads' HO170.out).2.1); rintro e w58 ⟨rfl, hb⟩; have n0_ := Aside0.mk (Kd.R_below (by (with_reducible repeat (first | apply Kd.R_alloc | apply Kd.R_drewN | apply Kd.R_drew)); exact (Kd.R_mono (Kd.R_far (p := ⟨gb179, 2, none⟩) (Kd.R_far (p := ⟨gb179, 1, none⟩) (Kd.R_far (p := ⟨gb179, 0, none⟩) (Kd.R_types HO157.out BK179.out (by decide)) (fun _ hk => hk.2) (.int .i64 t173)) (fun _ hk => hk.2) (.int .i64 t174)) (fun _ hk => hk.2) (.slice Ao46 t175.length co46)) (fun _ h_ => h_.1))) hb); have n1_ := Aside0.mk (Kd.R_below (by (with_reducible repeat (first | apply Kd.R_alloc | apply Kd.R_drewN | apply Kd.R_drew)); exact (Kd.R_mono (Kd.R_far (p := ⟨gb179, 2, none⟩) (Kd.R_far (p := ⟨gb179, 1, none⟩) (Kd.R_far (p := ⟨gb179, 0, none⟩) (Kd.R_types HO165.out BK179.out (by decide)) (fun _ hk => hk.2) (.int .i64 t173)) (fun _ hk => hk.2) (.int .i64 t174)) (fun _ hk => hk.2) (.slice Ao46 t175.length co46)) (fun _ h_ => h_.1))) hb); have n2_ := Aside0.mk (Kd.R_below (by (with_reducible repeat (first | apply Kd.R_alloc | apply Kd.R_drewN | apply Kd.R_drew)); exact (Kd.R_mono (Kd.R_far (p := ⟨gb179, 2, none⟩) (Kd.R_far (p := ⟨gb179, 1, none⟩) (Kd.R_far (p := ⟨gb179, 0, none⟩) (Kd.R_types HO170.out BK179.out (by decide)) (fun _ hk => hk.2) (.int .i64 t173)) (fun _ hk => hk.2) (.int .i64 t174)) (fun _ hk => hk.2) (.slice Ao46 t175.length co46)) (fun _ h_ => h_.1))) hb); have n3_ := Aside0.mk (Kd.R_below (by (with_reducible repeat (first | apply Kd.R_alloc | apply Kd.R_drewN | apply Kd.R_drew)); exact (Kd.R_mono (Kd.R_far (p := ⟨gb179, 2, none⟩) (Kd.R_far (p := ⟨gb179, 1, none⟩) (Kd.R_far (p := ⟨gb179, 0, none⟩) (Kd.R_types HO177.out BK179.out (by decide)) (fun _ hk => hk.2) (.int .i64 t173)) (fun _ hk => hk.2) (.int .i64 t174)) (fun _ hk => hk.2) (.slice Ao46 t175.length co46)) (fun _ h_ => h_.1))) hb); have n4_ := Aside0.mk (blk_below (g := gb151) (o := .cells #[.int .i64 a0_0, .int .i64 a0_1, .slice A0_2 l0_2.length c0_2, .int .i64 a0_3, .int .i64 a0_4, .int .i64 a0_5, .int .i64 a0_6, .slice A0_7 l0_7.length c0_7, .int .i64 a0_8, .int .i64 a0_9, .int .u8 a0_10] 36 (0, 0)) (by (with_reducible repeat (first | refine blk_drewN ?_ _ | refine blk_drew ?_ | refine blk_alloc ?_ _)); refine blk_far ?_ NB151_179.out _; (with_reducible repeat (first | refine blk_drewN ?_ _ | refine blk_drew ?_ | refine blk_alloc ?_ _)); refine blk_far ?_ NB151_179.out _; (with_reducible repeat (first | refine blk_drewN ?_ _ | refine blk_drew ?_ | refine blk_alloc ?_ _)); refine blk_far ?_ NB151_179.out _; (with_reducible repeat (first | refine blk_drewN ?_ _ | refine blk_drew ?_ | refine blk_alloc ?_ _)); exact BK151.out) hb); have n5_ := Aside0.mk (blk_below (g := gb158) (o := .cells #[.int .i64 t153, .int .i64 t154, .slice Ao16 t155.length co16] 32 (0, 0)) (by (with_reducible repeat (first | refine blk_drewN ?_ _ | refine blk_drew ?_ | refine blk_alloc ?_ _)); refine blk_far ?_ NB158_179.out _; (with_reducible repeat (first | refine blk_drewN ?_ _ | refine blk_drew ?_ | refine blk_alloc ?_ _)); refine blk_far ?_ NB158_179.out _; (with_reducible repeat (first | refine blk_drewN ?_ _ | refine blk_drew ?_ | refine blk_alloc ?_ _)); refine blk_far ?_ NB158_179.out _; (with_reducible repeat (first | refine blk_drewN ?_ _ | refine blk_drew ?_ | refine blk_alloc ?_ _)); exact BK158.out) hb); have n6_ := Aside0.mk (blk_below (g := gb159) (o := .cells #[.int .i64 a0_3, .int .i64 a0_4, .int .i64 a0_5, .int .i64 a0_6, .slice Ao26 y163.length co26] 34 (0, 0)) (by (with_reducible repeat (first | refine blk_drewN ?_ _ | refine blk_drew ?_ | refine blk_alloc ?_ _)); refine blk_far ?_ NB159_179.out _; (with_reducible repeat (first | refine blk_drewN ?_ _ | refine blk_drew ?_ | refine blk_alloc ?_ _)); refine blk_far ?_ NB159_179.out _; (with_reducible repeat (first | refine blk_drewN ?_ _ | refine blk_drew ?_ | refine blk_alloc ?_ _)); refine blk_far ?_ NB159_179.out _; (with_reducible repeat (first | refine blk_drewN ?_ _ | refine blk_drew ?_ | refine blk_alloc ?_ _)); exact BK159.out) hb); have n7_ := Aside0.mk (blk_below (g := gb172) (o := .cells #[.int .i64 t166, .int .i64 t167, .slice Ao35 t168.length co35] 32 (0, 0)) (by (with_reducible repeat (first | refine blk_drewN ?_ _ | refine blk_drew ?_ | refine blk_alloc ?_ _)); refine blk_far ?_ NB172_179.out _; (with_reducible repeat (first | refine blk_drewN ?_ _ | refine blk_drew ?_ | refine blk_alloc ?_ _)); refine blk_far ?_ NB172_179.out _; (with_reducible repeat (first | refine blk_drewN ?_ _ | refine blk_drew ?_ | refine blk_alloc ?_ _)); refine blk_far ?_ NB172_179.out _; (with_reducible repeat (first | refine blk_drewN ?_ _ | refine blk_drew ?_ | refine blk_alloc ?_ _)); exact BK172.out) hb); have n8_ := Aside0.mk (blk_below (g := gb179) (o := .cells #[.int .i64 t173, .int .i64 t174, .slice Ao46 t175.length co46] 32 (0, 0)) (by (with_reducible repeat (first | refine blk_drewN ?_ _ | refine blk_drew ?_ | refine blk_alloc ?_ _)); refine blk_put (cs := #[.int .i64 t173, .int .i64 t174, .slice none 0 0]) ?_ 2 _ rfl; (with_reducible repeat (first | refine blk_drewN ?_ _ | refine blk_drew ?_ | refine blk_alloc ?_ _)); refine blk_put (cs := #[.int .i64 t173, .int .i64 0, .slice none 0 0]) ?_ 1 _ rfl; (with_reducible repeat (first | refine blk_drewN ?_ _ | refine blk_drew ?_ | refine blk_alloc ?_ _)); refine blk_put (cs := #[.int .i64 0, .int .i64 0, .slice none 0 0]) ?_ 0 _ rfl; (with_reducible repeat (first | refine blk_drewN ?_ _ | refine blk_drew ?_ | refine blk_alloc ?_ _)); exact BK179.out) hb); have n9_ := Aside0.mk (below_step (by repeat (first | (with_reducible first | exact HB.out | apply below_alloc | apply pw_below_drewN | apply below_drew1 | refine below_set ?_ GE151.out | refine below_set ?_ GE158.out | refine below_set ?_ GE159.out | refine below_set ?_ GE172.out | refine below_set ?_ GE179.out) | exact HB.out)) hb); clear HO157; clear HO165; clear HO170; clear HO177; clear BK151; clear BK158; clear BK159; clear BK172; clear BK179; clear HB; have HO157 := n0_; have HO165 := n1_; have HO170 := n2_; have HO177 := n3_; have BK151 := n4_; have BK158 := n5_; have BK159 := n6_; have BK172 := n7_; have BK179 := n8_; have HB := n9_; clear n0_ n1_ n2_ n3_ n4_ n5_ n6_ n7_ n8_ n9_; (try clear hb); (try clear hb2); (try clear hk); (try clear hi)))
          go_meet
          case rel => exact ⟨_, (!t180), (by first | rfl | (simp; done) | (simp [*]; done)), H', ⟨by first | omega | exact Nat.le_refl _⟩, ⟨by (with_reducible repeat (first | apply Kd.R_alloc | apply Kd.R_drewN | apply Kd.R_drew)); exact Kd.R_mono HO157.out (fun _ hk => ⟨hk.1.1.2, ⟨hk.1.2, hk.2⟩⟩)⟩, ⟨by (with_reducible repeat (first | apply Kd.R_alloc | apply Kd.R_drewN | apply Kd.R_drew)); exact Kd.R_mono HO165.out (fun _ hk => ⟨hk.1.1, ⟨hk.1.2, hk.2⟩⟩)⟩, ⟨by (with_reducible repeat (first | apply Kd.R_alloc | apply Kd.R_drewN | apply Kd.R_drew)); exact Kd.R_mono HO170.out (fun _ hk => ⟨hk.1.1.2, ⟨hk.1.2, hk.2⟩⟩)⟩, ⟨by (with_reducible repeat (first | apply Kd.R_alloc | apply Kd.R_drewN | apply Kd.R_drew)); exact Kd.R_mono HO177.out (fun _ hk => ⟨hk.1.1.2, ⟨hk.1.2, hk.2⟩⟩)⟩, ⟨by (with_reducible repeat (first | refine blk_drewN ?_ _ | refine blk_drew ?_ | refine blk_alloc ?_ _)); exact BK151.out⟩, ⟨by (with_reducible repeat (first | refine blk_drewN ?_ _ | refine blk_drew ?_ | refine blk_alloc ?_ _)); exact BK158.out⟩, ⟨by (with_reducible repeat (first | refine blk_drewN ?_ _ | refine blk_drew ?_ | refine blk_alloc ?_ _)); exact BK159.out⟩, ⟨by (with_reducible repeat (first | refine blk_drewN ?_ _ | refine blk_drew ?_ | refine blk_alloc ?_ _)); exact BK172.out⟩, ⟨by (with_reducible repeat (first | refine blk_drewN ?_ _ | refine blk_drew ?_ | refine blk_alloc ?_ _)); exact BK179.out⟩, ⟨by repeat (first | (with_reducible first | exact HB.out | apply below_alloc | apply pw_below_drewN | apply below_drew1 | refine below_set ?_ GE151.out | refine below_set ?_ GE158.out | refine below_set ?_ GE159.out | refine below_set ?_ GE172.out | refine below_set ?_ GE179.out) | exact HB.out)⟩⟩
        · rw [if_neg c47] at H
          have c47b0 : (t178 == t171) = false := beq_eq_false_iff_ne.mpr c47
          have c47b1 : (t178 != t171) = true := bne_iff_ne.mpr c47
          (first | rw [c47b0] | (simp only [i64_w, i32_w]; rw [c47b0]) | skip)
          have H' := Aside0.mk H
          clear H
          go_wp2
          go_meet
          case rel => exact ⟨_, (true), (by first | rfl | (simp; done) | (simp [*]; done)), H', ⟨by first | omega | exact Nat.le_refl _⟩, ⟨by (with_reducible repeat (first | apply Kd.R_alloc | apply Kd.R_drewN | apply Kd.R_drew)); exact Kd.R_mono (Kd.R_far (p := ⟨gb179, 2, none⟩) (Kd.R_far (p := ⟨gb179, 1, none⟩) (Kd.R_far (p := ⟨gb179, 0, none⟩) (Kd.R_types HO157.out BK179.out (by decide)) (fun _ hk => hk.2) (.int .i64 t173)) (fun _ hk => hk.2) (.int .i64 t174)) (fun _ hk => hk.2) (.slice Ao46 t175.length co46)) (fun _ hk => ⟨hk.1.1.1.2, ⟨hk.1.1.2, hk.1.2⟩⟩)⟩, ⟨by (with_reducible repeat (first | apply Kd.R_alloc | apply Kd.R_drewN | apply Kd.R_drew)); exact Kd.R_mono (Kd.R_far (p := ⟨gb179, 2, none⟩) (Kd.R_far (p := ⟨gb179, 1, none⟩) (Kd.R_far (p := ⟨gb179, 0, none⟩) (Kd.R_types HO165.out BK179.out (by decide)) (fun _ hk => hk.2) (.int .i64 t173)) (fun _ hk => hk.2) (.int .i64 t174)) (fun _ hk => hk.2) (.slice Ao46 t175.length co46)) (fun _ hk => ⟨hk.1.1.1, ⟨hk.1.1.2, hk.1.2⟩⟩)⟩, ⟨by (with_reducible repeat (first | apply Kd.R_alloc | apply Kd.R_drewN | apply Kd.R_drew)); exact Kd.R_mono (Kd.R_far (p := ⟨gb179, 2, none⟩) (Kd.R_far (p := ⟨gb179, 1, none⟩) (Kd.R_far (p := ⟨gb179, 0, none⟩) (Kd.R_types HO170.out BK179.out (by decide)) (fun _ hk => hk.2) (.int .i64 t173)) (fun _ hk => hk.2) (.int .i64 t174)) (fun _ hk => hk.2) (.slice Ao46 t175.length co46)) (fun _ hk => ⟨hk.1.1.1.2, ⟨hk.1.1.2, hk.1.2⟩⟩)⟩, ⟨by (with_reducible repeat (first | apply Kd.R_alloc | apply Kd.R_drewN | apply Kd.R_drew)); exact Kd.R_mono (Kd.R_far (p := ⟨gb179, 2, none⟩) (Kd.R_far (p := ⟨gb179, 1, none⟩) (Kd.R_far (p := ⟨gb179, 0, none⟩) (Kd.R_types HO177.out BK179.out (by decide)) (fun _ hk => hk.2) (.int .i64 t173)) (fun _ hk => hk.2) (.int .i64 t174)) (fun _ hk => hk.2) (.slice Ao46 t175.length co46)) (fun _ hk => ⟨hk.1.1.1.2, ⟨hk.1.1.2, hk.1.2⟩⟩)⟩, ⟨by (with_reducible repeat (first | refine blk_drewN ?_ _ | refine blk_drew ?_ | refine blk_alloc ?_ _)); refine blk_far ?_ NB151_179.out _; (with_reducible repeat (first | refine blk_drewN ?_ _ | refine blk_drew ?_ | refine blk_alloc ?_ _)); refine blk_far ?_ NB151_179.out _; (with_reducible repeat (first | refine blk_drewN ?_ _ | refine blk_drew ?_ | refine blk_alloc ?_ _)); refine blk_far ?_ NB151_179.out _; (with_reducible repeat (first | refine blk_drewN ?_ _ | refine blk_drew ?_ | refine blk_alloc ?_ _)); exact BK151.out⟩, ⟨by (with_reducible repeat (first | refine blk_drewN ?_ _ | refine blk_drew ?_ | refine blk_alloc ?_ _)); refine blk_far ?_ NB158_179.out _; (with_reducible repeat (first | refine blk_drewN ?_ _ | refine blk_drew ?_ | refine blk_alloc ?_ _)); refine blk_far ?_ NB158_179.out _; (with_reducible repeat (first | refine blk_drewN ?_ _ | refine blk_drew ?_ | refine blk_alloc ?_ _)); refine blk_far ?_ NB158_179.out _; (with_reducible repeat (first | refine blk_drewN ?_ _ | refine blk_drew ?_ | refine blk_alloc ?_ _)); exact BK158.out⟩, ⟨by (with_reducible repeat (first | refine blk_drewN ?_ _ | refine blk_drew ?_ | refine blk_alloc ?_ _)); refine blk_far ?_ NB159_179.out _; (with_reducible repeat (first | refine blk_drewN ?_ _ | refine blk_drew ?_ | refine blk_alloc ?_ _)); refine blk_far ?_ NB159_179.out _; (with_reducible repeat (first | refine blk_drewN ?_ _ | refine blk_drew ?_ | refine blk_alloc ?_ _)); refine blk_far ?_ NB159_179.out _; (with_reducible repeat (first | refine blk_drewN ?_ _ | refine blk_drew ?_ | refine blk_alloc ?_ _)); exact BK159.out⟩, ⟨by (with_reducible repeat (first | refine blk_drewN ?_ _ | refine blk_drew ?_ | refine blk_alloc ?_ _)); refine blk_far ?_ NB172_179.out _; (with_reducible repeat (first | refine blk_drewN ?_ _ | refine blk_drew ?_ | refine blk_alloc ?_ _)); refine blk_far ?_ NB172_179.out _; (with_reducible repeat (first | refine blk_drewN ?_ _ | refine blk_drew ?_ | refine blk_alloc ?_ _)); refine blk_far ?_ NB172_179.out _; (with_reducible repeat (first | refine blk_drewN ?_ _ | refine blk_drew ?_ | refine blk_alloc ?_ _)); exact BK172.out⟩, ⟨by (with_reducible repeat (first | refine blk_drewN ?_ _ | refine blk_drew ?_ | refine blk_alloc ?_ _)); refine blk_put (cs := #[.int .i64 t173, .int .i64 t174, .slice none 0 0]) ?_ 2 _ rfl; (with_reducible repeat (first | refine blk_drewN ?_ _ | refine blk_drew ?_ | refine blk_alloc ?_ _)); refine blk_put (cs := #[.int .i64 t173, .int .i64 0, .slice none 0 0]) ?_ 1 _ rfl; (with_reducible repeat (first | refine blk_drewN ?_ _ | refine blk_drew ?_ | refine blk_alloc ?_ _)); refine blk_put (cs := #[.int .i64 0, .int .i64 0, .slice none 0 0]) ?_ 0 _ rfl; (with_reducible repeat (first | refine blk_drewN ?_ _ | refine blk_drew ?_ | refine blk_alloc ?_ _)); exact BK179.out⟩, ⟨by repeat (first | (with_reducible first | exact HB.out | apply below_alloc | apply pw_below_drewN | apply below_drew1 | refine below_set ?_ GE151.out | refine below_set ?_ GE158.out | refine below_set ?_ GE159.out | refine below_set ?_ GE172.out | refine below_set ?_ GE179.out) | exact HB.out)⟩⟩
      case rest =>
        clear HC8
        try clear c1
        try clear c2
        try clear p2
        try clear c3
        try clear c4
        try clear c5
        try clear c6
        try clear c14
        try clear c19
        try clear c20
        try clear c22
        try clear c23
        try clear c24
        try clear c25
        try clear c31
        try clear c32
        try clear c33
        try clear c41
        try clear c42
        try clear c43
        try clear c44
        try clear c47
        try clear c47b0
        try clear c47b1
        try clear c49
        try clear c50
        try clear c51
        try clear c52
        try clear c54
        try clear c55
        try clear c56
        try clear hcz11_0
        try clear hcz11_1
        try clear hcz11_10
        try clear hcz11_2
        try clear hcz11_3
        try clear hcz11_4
        try clear hcz11_5
        try clear hcz11_6
        try clear hcz11_7
        try clear hcz11_8
        try clear hcz11_9
        try clear hcz15_0
        try clear hcz15_1
        try clear hcz15_2
        try clear hcz17_0
        try clear hcz17_1
        try clear hcz17_10
        try clear hcz17_2
        try clear hcz17_3
        try clear hcz17_4
        try clear hcz17_5
        try clear hcz17_6
        try clear hcz17_7
        try clear hcz17_8
        try clear hcz17_9
        try clear hcz21_0
        try clear hcz21_1
        try clear hcz21_2
        try clear hcz21_3
        try clear hcz21_4
        try clear hcz24_0
        try clear hcz24_1
        try clear hcz24_2
        try clear hcz24_3
        try clear hcz24_4
        try clear hcz27_0
        try clear hcz27_1
        try clear hcz27_2
        try clear hcz27_3
        try clear hcz27_4
        try clear hcz28_0
        try clear hcz28_1
        try clear hcz28_10
        try clear hcz28_2
        try clear hcz28_3
        try clear hcz28_4
        try clear hcz28_5
        try clear hcz28_6
        try clear hcz28_7
        try clear hcz28_8
        try clear hcz28_9
        try clear hcz34_0
        try clear hcz34_1
        try clear hcz34_2
        try clear hcz36_0
        try clear hcz36_1
        try clear hcz36_2
        try clear hcz37_0
        try clear hcz37_1
        try clear hcz37_2
        try clear hcz37_3
        try clear hcz37_4
        try clear hcz38_0
        try clear hcz38_1
        try clear hcz38_10
        try clear hcz38_2
        try clear hcz38_3
        try clear hcz38_4
        try clear hcz38_5
        try clear hcz38_6
        try clear hcz38_7
        try clear hcz38_8
        try clear hcz38_9
        try clear hcz45_0
        try clear hcz45_1
        try clear hcz45_2
        try clear hcz53_0
        try clear hcz53_1
        try clear hcz53_2
        try clear hcz57_0
        try clear hcz57_1
        try clear hcz57_2
        try clear hfz11_0
        try clear hfz11_1
        try clear hfz11_10
        try clear hfz11_2
        try clear hfz11_3
        try clear hfz11_4
        try clear hfz11_5
        try clear hfz11_6
        try clear hfz11_7
        try clear hfz11_8
        try clear hfz11_9
        try clear hfz15_0
        try clear hfz15_1
        try clear hfz15_2
        try clear hfz17_0
        try clear hfz17_1
        try clear hfz17_10
        try clear hfz17_2
        try clear hfz17_3
        try clear hfz17_4
        try clear hfz17_5
        try clear hfz17_6
        try clear hfz17_7
        try clear hfz17_8
        try clear hfz17_9
        try clear hfz21_0
        try clear hfz21_1
        try clear hfz21_2
        try clear hfz21_3
        try clear hfz21_4
        try clear hfz24_0
        try clear hfz24_1
        try clear hfz24_2
        try clear hfz24_3
        try clear hfz24_4
        try clear hfz27_0
        try clear hfz27_1
        try clear hfz27_2
        try clear hfz27_3
        try clear hfz27_4
        try clear hfz28_0
        try clear hfz28_1
        try clear hfz28_10
        try clear hfz28_2
        try clear hfz28_3
        try clear hfz28_4
        try clear hfz28_5
        try clear hfz28_6
        try clear hfz28_7
        try clear hfz28_8
        try clear hfz28_9
        try clear hfz34_0
        try clear hfz34_1
        try clear hfz34_2
        try clear hfz36_0
        try clear hfz36_1
        try clear hfz36_2
        try clear hfz37_0
        try clear hfz37_1
        try clear hfz37_2
        try clear hfz37_3
        try clear hfz37_4
        try clear hfz38_0
        try clear hfz38_1
        try clear hfz38_10
        try clear hfz38_2
        try clear hfz38_3
        try clear hfz38_4
        try clear hfz38_5
        try clear hfz38_6
        try clear hfz38_7
        try clear hfz38_8
        try clear hfz38_9
        try clear hfz45_0
        try clear hfz45_1
        try clear hfz45_2
        try clear hfz53_0
        try clear hfz53_1
        try clear hfz53_2
        try clear hfz57_0
        try clear hfz57_1
        try clear hfz57_2
        obtain ⟨kq, x56_7, rfl, HA, HJ7, HO_159002, HO_160004, HO_173002, HO_180002, BK151, BK158, BK159, BK172, BK179, HB⟩ := hcut
        cases kq with
        | zero => exact absurd HA.out (by simp [seriflaw22_BlendOvers.j0])
        | succ kj7 =>
          have H := HA.out
          clear HA
          simp only [seriflaw22_BlendOvers.j0] at H
          by_cases c59 : x56_7 = true
          · subst c59
            have H1 : (some false) = some r := by rw [if_pos rfl] at H; exact H
            clear H
            have H := H1
            clear H1
            obtain rfl := Option.some.inj H
            go_wp2
            go_ret
            exact ⟨by first | rfl | (simp [errW_none, errW_some] <;> rfl) | (simp [*, errW_none, errW_some] <;> rfl), by repeat (first | (with_reducible first | exact HB.out | apply below_alloc | apply pw_below_drewN | apply below_drew1 | refine below_set ?_ GE151.out | refine below_set ?_ GE158.out | refine below_set ?_ GE159.out | refine below_set ?_ GE172.out | refine below_set ?_ GE179.out) | exact HB.out)⟩
          · replace c59 := Bool.eq_false_iff.mpr c59
            subst c59
            have H1 : (seriflaw22_BlendOvers.l0 kj7 (t175.length : Int) 0 a0_0 a0_1 l0_2 a0_3 a0_4 a0_5 a0_6 l0_7 a0_8 a0_9 a0_10 t153 t154 t155 a0_3 a0_4 a0_5 a0_6 y163 t173 t174 t175) = some r := by rw [if_neg (show ¬ (false = true) by decide)] at H; exact H
            clear H
            have H := H1
            clear H1
            have H' := Aside0.mk H
            clear H
            have hnb60 := NB179_151.out
            have hnc60 := NB151_179.out
            have hnb61 := NB179_158.out
            have hnc61 := NB158_179.out
            have hnb62 := NB179_159.out
            have hnc62 := NB159_179.out
            have hnb63 := NB179_172.out
            have hnc63 := NB172_179.out
            have hcz64_0 : wc.cell? ⟨gb179, 0, none⟩ = some (.int .i64 t173) := (blk_cell BK179.out 0).trans rfl
            have hcz64_1 : wc.cell? ⟨gb179, 1, none⟩ = some (.int .i64 t174) := (blk_cell BK179.out 1).trans rfl
            have hcz64_2 : wc.cell? ⟨gb179, 2, none⟩ = some (.slice Ao46 t175.length co46) := (blk_cell BK179.out 2).trans rfl
            have hfz64_0 := blk_frozen BK179.out 0
            have hfz64_1 := blk_frozen BK179.out 1
            have hfz64_2 := blk_frozen BK179.out 2
            go_wp2
            go_loopg [60] kj7 (fun kq v60 w' => ∃ (x60_2 : Int) (x159002_2 : List Int) (x160004_2 : List Int) (x173002_2 : List Int) (x180002_2 : List Int) (u159002 : Value) (u160004 : Value) (u173002 : Value) (u180002 : Value), v60 = .int .i64 x60_2 ∧ Aside0 (seriflaw22_BlendOvers.l0 kq (t175.length : Int) x60_2 a0_0 a0_1 l0_2 a0_3 a0_4 a0_5 a0_6 l0_7 a0_8 a0_9 a0_10 t153 t154 x159002_2 a0_3 a0_4 a0_5 a0_6 x160004_2 t173 t174 x180002_2 = some r) ∧ Aside0 (kq ≤ kj7) ∧ Aside0 (Kd.R (Kd.int .u8) 5 w' w.heap.size (fun k_ => some k_ ≠ (u160004 : Value).ownBlock ∧ some k_ ≠ (u173002 : Value).ownBlock ∧ some k_ ≠ (u180002 : Value).ownBlock) u159002 x159002_2) ∧ Aside0 (Kd.R (Kd.int .u8) 5 w' w.heap.size (fun k_ => some k_ ≠ (u159002 : Value).ownBlock ∧ some k_ ≠ (u173002 : Value).ownBlock ∧ some k_ ≠ (u180002 : Value).ownBlock) u160004 x160004_2) ∧ Aside0 (Kd.R (Kd.int .u8) 5 w' w.heap.size (fun k_ => some k_ ≠ (u159002 : Value).ownBlock ∧ some k_ ≠ (u160004 : Value).ownBlock ∧ some k_ ≠ (u180002 : Value).ownBlock) u173002 x173002_2) ∧ Aside0 (Kd.R (Kd.int .u8) 5 w' w.heap.size (fun k_ => some k_ ≠ (u159002 : Value).ownBlock ∧ some k_ ≠ (u160004 : Value).ownBlock ∧ some k_ ≠ (u173002 : Value).ownBlock) u180002 x180002_2) ∧ Aside0 (w'.heap[gb151]? = some (.cells #[.int .i64 a0_0, .int .i64 a0_1, (.slice A0_2 l0_2.length c0_2), .int .i64 a0_3, .int .i64 a0_4, .int .i64 a0_5, .int .i64 a0_6, (.slice A0_7 l0_7.length c0_7), .int .i64 a0_8, .int .i64 a0_9, .int .u8 a0_10] 36 (0, 0))) ∧ Aside0 (w'.heap[gb158]? = some (.cells #[.int .i64 t153, .int .i64 t154, u159002] 32 (0, 0))) ∧ Aside0 (w'.heap[gb159]? = some (.cells #[.int .i64 a0_3, .int .i64 a0_4, .int .i64 a0_5, .int .i64 a0_6, u160004] 34 (0, 0))) ∧ Aside0 (w'.heap[gb172]? = some (.cells #[.int .i64 t166, .int .i64 t167, u173002] 32 (0, 0))) ∧ Aside0 (w'.heap[gb179]? = some (.cells #[.int .i64 t173, .int .i64 t174, u180002] 32 (0, 0))) ∧ Aside0 (Below w.heap.size w w'))
            case atStart => exact ⟨(0), (t155), (y163), (t168), (t175), (.slice Ao16 t155.length co16), (.slice Ao26 y163.length co26), (.slice Ao35 t168.length co35), (.slice Ao46 t175.length co46), (by first | rfl | (simp; done) | (simp [*]; done)), H', ⟨Nat.le_refl _⟩, ⟨by (with_reducible repeat (first | apply Kd.R_alloc | apply Kd.R_drewN | apply Kd.R_drew)); exact HO_159002.out⟩, ⟨by (with_reducible repeat (first | apply Kd.R_alloc | apply Kd.R_drewN | apply Kd.R_drew)); exact HO_160004.out⟩, ⟨by (with_reducible repeat (first | apply Kd.R_alloc | apply Kd.R_drewN | apply Kd.R_drew)); exact HO_173002.out⟩, ⟨by (with_reducible repeat (first | apply Kd.R_alloc | apply Kd.R_drewN | apply Kd.R_drew)); exact HO_180002.out⟩, ⟨by (with_reducible repeat (first | refine blk_drewN ?_ _ | refine blk_drew ?_ | refine blk_alloc ?_ _)); exact BK151.out⟩, ⟨by (with_reducible repeat (first | refine blk_drewN ?_ _ | refine blk_drew ?_ | refine blk_alloc ?_ _)); exact BK158.out⟩, ⟨by (with_reducible repeat (first | refine blk_drewN ?_ _ | refine blk_drew ?_ | refine blk_alloc ?_ _)); exact BK159.out⟩, ⟨by (with_reducible repeat (first | refine blk_drewN ?_ _ | refine blk_drew ?_ | refine blk_alloc ?_ _)); exact BK172.out⟩, ⟨by (with_reducible repeat (first | refine blk_drewN ?_ _ | refine blk_drew ?_ | refine blk_alloc ?_ _)); exact BK179.out⟩, ⟨by repeat (first | (with_reducible first | exact HB.out | apply below_alloc | apply pw_below_drewN | apply below_drew1 | refine below_set ?_ GE151.out | refine below_set ?_ GE158.out | refine below_set ?_ GE159.out | refine below_set ?_ GE172.out | refine below_set ?_ GE179.out) | exact HB.out)⟩⟩
            case round =>
              clear H'
              try clear c1
              try clear c2
              try clear p2
              try clear c3
              try clear c4
              try clear c5
              try clear c6
              try clear c14
              try clear c19
              try clear c20
              try clear c22
              try clear c23
              try clear c24
              try clear c25
              try clear c31
              try clear c32
              try clear c33
              try clear c41
              try clear c42
              try clear c43
              try clear c44
              try clear c47
              try clear c47b0
              try clear c47b1
              try clear c49
              try clear c50
              try clear c51
              try clear c52
              try clear c54
              try clear c55
              try clear c56
              try clear c59
              try clear c60
              try clear c61
              try clear c62
              try clear c63
              try clear hcz11_0
              try clear hcz11_1
              try clear hcz11_10
              try clear hcz11_2
              try clear hcz11_3
              try clear hcz11_4
              try clear hcz11_5
              try clear hcz11_6
              try clear hcz11_7
              try clear hcz11_8
              try clear hcz11_9
              try clear hcz15_0
              try clear hcz15_1
              try clear hcz15_2
              try clear hcz17_0
              try clear hcz17_1
              try clear hcz17_10
              try clear hcz17_2
              try clear hcz17_3
              try clear hcz17_4
              try clear hcz17_5
              try clear hcz17_6
              try clear hcz17_7
              try clear hcz17_8
              try clear hcz17_9
              try clear hcz21_0
              try clear hcz21_1
              try clear hcz21_2
              try clear hcz21_3
              try clear hcz21_4
              try clear hcz24_0
              try clear hcz24_1
              try clear hcz24_2
              try clear hcz24_3
              try clear hcz24_4
              try clear hcz27_0
              try clear hcz27_1
              try clear hcz27_2
              try clear hcz27_3
              try clear hcz27_4
              try clear hcz28_0
              try clear hcz28_1
              try clear hcz28_10
              try clear hcz28_2
              try clear hcz28_3
              try clear hcz28_4
              try clear hcz28_5
              try clear hcz28_6
              try clear hcz28_7
              try clear hcz28_8
              try clear hcz28_9
              try clear hcz34_0
              try clear hcz34_1
              try clear hcz34_2
              try clear hcz36_0
              try clear hcz36_1
              try clear hcz36_2
              try clear hcz37_0
              try clear hcz37_1
              try clear hcz37_2
              try clear hcz37_3
              try clear hcz37_4
              try clear hcz38_0
              try clear hcz38_1
              try clear hcz38_10
              try clear hcz38_2
              try clear hcz38_3
              try clear hcz38_4
              try clear hcz38_5
              try clear hcz38_6
              try clear hcz38_7
              try clear hcz38_8
              try clear hcz38_9
              try clear hcz45_0
              try clear hcz45_1
              try clear hcz45_2
              try clear hcz53_0
              try clear hcz53_1
              try clear hcz53_2
              try clear hcz57_0
              try clear hcz57_1
              try clear hcz57_2
              try clear hcz64_0
              try clear hcz64_1
              try clear hcz64_2
              try clear hfz11_0
              try clear hfz11_1
              try clear hfz11_10
              try clear hfz11_2
              try clear hfz11_3
              try clear hfz11_4
              try clear hfz11_5
              try clear hfz11_6
              try clear hfz11_7
              try clear hfz11_8
              try clear hfz11_9
              try clear hfz15_0
              try clear hfz15_1
              try clear hfz15_2
              try clear hfz17_0
              try clear hfz17_1
              try clear hfz17_10
              try clear hfz17_2
              try clear hfz17_3
              try clear hfz17_4
              try clear hfz17_5
              try clear hfz17_6
              try clear hfz17_7
              try clear hfz17_8
              try clear hfz17_9
              try clear hfz21_0
              try clear hfz21_1
              try clear hfz21_2
              try clear hfz21_3
              try clear hfz21_4
              try clear hfz24_0
              try clear hfz24_1
              try clear hfz24_2
              try clear hfz24_3
              try clear hfz24_4
              try clear hfz27_0
              try clear hfz27_1
              try clear hfz27_2
              try clear hfz27_3
              try clear hfz27_4
              try clear hfz28_0
              try clear hfz28_1
              try clear hfz28_10
              try clear hfz28_2
              try clear hfz28_3
              try clear hfz28_4
              try clear hfz28_5
              try clear hfz28_6
              try clear hfz28_7
              try clear hfz28_8
              try clear hfz28_9
              try clear hfz34_0
              try clear hfz34_1
              try clear hfz34_2
              try clear hfz36_0
              try clear hfz36_1
              try clear hfz36_2
              try clear hfz37_0
              try clear hfz37_1
              try clear hfz37_2
              try clear hfz37_3
              try clear hfz37_4
              try clear hfz38_0
              try clear hfz38_1
              try clear hfz38_10
              try clear hfz38_2
              try clear hfz38_3
              try clear hfz38_4
              try clear hfz38_5
              try clear hfz38_6
              try clear hfz38_7
              try clear hfz38_8
              try clear hfz38_9
              try clear hfz45_0
              try clear hfz45_1
              try clear hfz45_2
              try clear hfz53_0
              try clear hfz53_1
              try clear hfz53_2
              try clear hfz57_0
              try clear hfz57_1
              try clear hfz57_2
              try clear hfz64_0
              try clear hfz64_1
              try clear hfz64_2
              try clear p2
              obtain ⟨x60_2, x159002_2, x160004_2, x173002_2, x180002_2, u159002, u160004, u173002, u180002, rfl, HA, HK2, HO_159002, HO_160004, HO_173002, HO_180002, BK151, BK158, BK159, BK172, BK179, HB⟩ := hrel
              cases gk with
              | zero => exact absurd HA.out (by simp [seriflaw22_BlendOvers.l0])
              | succ k2 =>
                have H := HA.out
                clear HA
                simp only [seriflaw22_BlendOvers.l0] at H
                by_cases c65 : x60_2 < (t175.length : Int)
                · rw [if_pos c65] at H
                  have c65b0 : decide (x60_2 < (t175.length : Int)) = true := decide_eq_true c65
                  clear c65
                  by_cases c66 : 0 ≤ x60_2
                  · rw [if_pos c66] at H
                    have c66b0 : decide (0 ≤ x60_2) = true := decide_eq_true c66
                    clear c66
                    by_cases c67 : x60_2 < (x180002_2.length : Int)
                    · rw [if_pos c67] at H
                      have c67b0 : decide (x60_2 < (x180002_2.length : Int)) = true := decide_eq_true c67
                      clear c67
                      obtain ⟨y182, hy182⟩ : ∃ y_ : List Int, y_ = (x180002_2.set (x60_2 : Int).toNat (Go.bits .xor .u8 (rd x180002_2 x60_2) 255)) := ⟨_, rfl⟩
                      replace H : (seriflaw22_BlendOvers.l0 k2 (t175.length : Int) (wrap64 (x60_2 + 1)) a0_0 a0_1 l0_2 a0_3 a0_4 a0_5 a0_6 l0_7 a0_8 a0_9 a0_10 t153 t154 x159002_2 a0_3 a0_4 a0_5 a0_6 x160004_2 t173 t174 y182) = some r := by first | (rw [hy182]; with_reducible exact H) | (have H2_ := (Option.bind_some _ _).symm.trans H; rw [hy182]; with_reducible exact H2_) | (have H2_ := (Option.bind_some _ _).symm.trans H; with_reducible exact H2_) | with_reducible exact H | (rw [hy182]; exact H) | exact H
                      have Ny182 := Aside0.mk hy182
                      clear hy182
                      have H' := Aside0.mk H
                      clear H
                      have hnb69 := NB179_151.out
                      have hnc69 := NB151_179.out
                      have hnb70 := NB179_158.out
                      have hnc70 := NB158_179.out
                      have hnb71 := NB179_159.out
                      have hnc71 := NB159_179.out
                      have hnb72 := NB179_172.out
                      have hnc72 := NB172_179.out
                      have hcz73_0 : wr.cell? ⟨gb179, 0, none⟩ = some (.int .i64 t173) := (blk_cell BK179.out 0).trans rfl
                      have hcz73_1 : wr.cell? ⟨gb179, 1, none⟩ = some (.int .i64 t174) := (blk_cell BK179.out 1).trans rfl
                      have hcz73_2 : wr.cell? ⟨gb179, 2, none⟩ = some (u180002) := (blk_cell BK179.out 2).trans rfl
                      have hfz73_0 := blk_frozen BK179.out 0
                      have hfz73_1 := blk_frozen BK179.out 1
                      have hfz73_2 := blk_frozen BK179.out 2
                      obtain ⟨Ao74, co74, eo74⟩ := Kd.R_slice HO_180002.out
                      subst eo74
                      have p181 : 0 ≤ (x60_2 : Int) := of_decide_eq_true (by first | (with_reducible assumption) | assumption)
                      have q181 : x60_2 < (x180002_2.length : Int) := of_decide_eq_true (by first | (with_reducible assumption) | assumption)
                      obtain ⟨ad181, e181, hx181_0⟩ := Kd.at_int (Kd.R_reads' HO_180002.out).2.2 x60_2 p181 q181
                      cases e181
                      replace p181 := eq_true p181
                      replace q181 := eq_true q181
                      have p68 : 0 ≤ (x60_2 : Int) := of_decide_eq_true (by first | (with_reducible assumption) | assumption)
                      have q68 : (x60_2 : Int) < ((x180002_2.length : Int) : Int) := of_decide_eq_true (by first | (with_reducible assumption) | assumption)
                      obtain ⟨go68, co68, eo68, gb68, gl68, cl68, HG68⟩ := Kd.R_form HO_180002.out (by omega)
                      (first | cases eo68 | (injection eo68 with ea_ en_ ec_; (first | subst ea_ | (injection ea_ with ea_; subst ea_)); subst ec_; clear en_))
                      have GB68 := Aside0.mk gb68
                      have GG68 := Aside0.mk HG68
                      clear gb68 gl68 HG68
                      (first | simp only [add_plain] at hx181_0 | skip)
                      obtain ⟨hx68_0, hf68_0⟩ := Kd.R_celln 0 HO_180002.out (x60_2 : Int) p68 q68
                      replace p68 := eq_true p68
                      replace q68 := eq_true q68
                      have HP75 := Kd.R_putg HO_180002.out (x60_2 : Int) (Go.bits .xor .u8 (rd x180002_2 x60_2) 255)
                      go_wp2_with (first | ((with_reducible refine gate_store (t := 5) (p := 69) rfl ?_); refine store_event (t := 5) (p := 69) (v := ?vo_w76) (w1 := (wr.setCell ⟨go68, (x60_2 : Int).toNat, none⟩ (.int .u8 (Go.bits .xor .u8 (rd x180002_2 x60_2) 255)))) ?hg ?ho ?hn ?hr ?_; (case ho => rfl); (case hg => rfl); (case hn => rfl); (case hr => first | (go_simp; done) | (go_simp; rfl)); intro w76 hw; have hg : wr.grownBy w76 (some go68) := (by rw [hw]; exact HP75.2); have hp_ : Kd.R (Kd.int .u8) 5 w76 w.heap.size (fun k_ => some k_ ≠ (u159002 : Value).ownBlock ∧ some k_ ≠ (u160004 : Value).ownBlock ∧ some k_ ≠ (u173002 : Value).ownBlock) (.slice (some ⟨go68, 0, none⟩) x180002_2.length co74) y182 := (by rw [hw, Ny182.out]; exact HP75.1); clear HP75; have n0_ := Aside0.mk (Kd.R_after (v := (.slice (some ⟨go68, 0, none⟩) x180002_2.length co74)) (v1 := (.slice (some ⟨go68, 0, none⟩) x180002_2.length co74)) (ok := (fun k_ => some k_ ≠ (u160004 : Value).ownBlock ∧ some k_ ≠ (u173002 : Value).ownBlock)) (by (with_reducible repeat (first | apply Kd.R_alloc | apply Kd.R_drewN | apply Kd.R_drew)); exact Kd.R_mono HO_159002.out (fun _ hk => ⟨⟨hk.1, hk.2.1⟩, hk.2.2⟩)) hg (.inl rfl)); have n1_ := Aside0.mk (Kd.R_after (v := (.slice (some ⟨go68, 0, none⟩) x180002_2.length co74)) (v1 := (.slice (some ⟨go68, 0, none⟩) x180002_2.length co74)) (ok := (fun k_ => some k_ ≠ (u159002 : Value).ownBlock ∧ some k_ ≠ (u173002 : Value).ownBlock)) (by (with_reducible repeat (first | apply Kd.R_alloc | apply Kd.R_drewN | apply Kd.R_drew)); exact Kd.R_mono HO_160004.out (fun _ hk => ⟨⟨hk.1, hk.2.1⟩, hk.2.2⟩)) hg (.inl rfl)); have n2_ := Aside0.mk (Kd.R_after (v := (.slice (some ⟨go68, 0, none⟩) x180002_2.length co74)) (v1 := (.slice (some ⟨go68, 0, none⟩) x180002_2.length co74)) (ok := (fun k_ => some k_ ≠ (u159002 : Value).ownBlock ∧ some k_ ≠ (u160004 : Value).ownBlock)) (by (with_reducible repeat (first | apply Kd.R_alloc | apply Kd.R_drewN | apply Kd.R_drew)); exact Kd.R_mono HO_173002.out (fun _ hk => ⟨⟨hk.1, hk.2.1⟩, hk.2.2⟩)) hg (.inl rfl)); have n3_ := Aside0.mk (hp_); have n4_ := Aside0.mk (blk_grown (g := gb151) (o := .cells #[.int .i64 a0_0, .int .i64 a0_1, .slice A0_2 l0_2.length c0_2, .int .i64 a0_3, .int .i64 a0_4, .int .i64 a0_5, .int .i64 a0_6, .slice A0_7 l0_7.length c0_7, .int .i64 a0_8, .int .i64 a0_9, .int .u8 a0_10] 36 (0, 0)) (by (with_reducible repeat (first | refine blk_drewN ?_ _ | refine blk_drew ?_ | refine blk_alloc ?_ _)); exact BK151.out) hg (Kd.R_ne HO_180002.out BK151.out (by decide))); have n5_ := Aside0.mk (blk_grown (g := gb158) (o := .cells #[.int .i64 t153, .int .i64 t154, u159002] 32 (0, 0)) (by (with_reducible repeat (first | refine blk_drewN ?_ _ | refine blk_drew ?_ | refine blk_alloc ?_ _)); exact BK158.out) hg (Kd.R_ne HO_180002.out BK158.out (by decide))); have n6_ := Aside0.mk (blk_grown (g := gb159) (o := .cells #[.int .i64 a0_3, .int .i64 a0_4, .int .i64 a0_5, .int .i64 a0_6, u160004] 34 (0, 0)) (by (with_reducible repeat (first | refine blk_drewN ?_ _ | refine blk_drew ?_ | refine blk_alloc ?_ _)); exact BK159.out) hg (Kd.R_ne HO_180002.out BK159.out (by decide))); have n7_ := Aside0.mk (blk_grown (g := gb172) (o := .cells #[.int .i64 t166, .int .i64 t167, u173002] 32 (0, 0)) (by (with_reducible repeat (first | refine blk_drewN ?_ _ | refine blk_drew ?_ | refine blk_alloc ?_ _)); exact BK172.out) hg (Kd.R_ne HO_180002.out BK172.out (by decide))); have n8_ := Aside0.mk (blk_grown (g := gb179) (o := .cells #[.int .i64 t173, .int .i64 t174, .slice (some ⟨go68, 0, none⟩) x180002_2.length co74] 32 (0, 0)) (by (with_reducible repeat (first | refine blk_drewN ?_ _ | refine blk_drew ?_ | refine blk_alloc ?_ _)); exact BK179.out) hg (Kd.R_ne HO_180002.out BK179.out (by decide))); have n9_ := Aside0.mk ((by rw [hw]; exact below_set (HB.out) GB68.out : Below w.heap.size w w76)); clear HO_159002; clear HO_160004; clear HO_173002; clear HO_180002; clear BK151; clear BK158; clear BK159; clear BK172; clear BK179; clear HB; have HO_159002 := n0_; have HO_160004 := n1_; have HO_173002 := n2_; have HO_180002 := n3_; have BK151 := n4_; have BK158 := n5_; have BK159 := n6_; have BK172 := n7_; have BK179 := n8_; have HB := n9_; clear n0_ n1_ n2_ n3_ n4_ n5_ n6_ n7_ n8_ n9_; clear hg hw hp_))
                      go_roundg k2
                      case measure => have := HJ7.out; have := HK2.out; omega
                      case rel => exact ⟨(wrap64 (x60_2 + 1)), (x159002_2), (x160004_2), (x173002_2), (y182), (u159002), (u160004), (u173002), (.slice (some ⟨go68, 0, none⟩) x180002_2.length co74), (by first | rfl | (simp; done) | (simp [*]; done)), H', ⟨by have := HJ7.out; have := HK2.out; omega⟩, ⟨by (with_reducible repeat (first | apply Kd.R_alloc | apply Kd.R_drewN | apply Kd.R_drew)); exact Kd.R_mono HO_159002.out (fun _ hk => ⟨hk.1.1, ⟨hk.1.2, hk.2⟩⟩)⟩, ⟨by (with_reducible repeat (first | apply Kd.R_alloc | apply Kd.R_drewN | apply Kd.R_drew)); exact Kd.R_mono HO_160004.out (fun _ hk => ⟨hk.1.1, ⟨hk.1.2, hk.2⟩⟩)⟩, ⟨by (with_reducible repeat (first | apply Kd.R_alloc | apply Kd.R_drewN | apply Kd.R_drew)); exact Kd.R_mono HO_173002.out (fun _ hk => ⟨hk.1.1, ⟨hk.1.2, hk.2⟩⟩)⟩, ⟨by (with_reducible repeat (first | apply Kd.R_alloc | apply Kd.R_drewN | apply Kd.R_drew)); exact HO_180002.out⟩, ⟨by (with_reducible repeat (first | refine blk_drewN ?_ _ | refine blk_drew ?_ | refine blk_alloc ?_ _)); exact BK151.out⟩, ⟨by (with_reducible repeat (first | refine blk_drewN ?_ _ | refine blk_drew ?_ | refine blk_alloc ?_ _)); exact BK158.out⟩, ⟨by (with_reducible repeat (first | refine blk_drewN ?_ _ | refine blk_drew ?_ | refine blk_alloc ?_ _)); exact BK159.out⟩, ⟨by (with_reducible repeat (first | refine blk_drewN ?_ _ | refine blk_drew ?_ | refine blk_alloc ?_ _)); exact BK172.out⟩, ⟨by (with_reducible repeat (first | refine blk_drewN ?_ _ | refine blk_drew ?_ | refine blk_alloc ?_ _)); exact BK179.out⟩, ⟨by repeat (first | (with_reducible first | exact HB.out | apply below_alloc | apply pw_below_drewN | apply below_drew1 | refine below_set ?_ GE151.out | refine below_set ?_ GE158.out | refine below_set ?_ GE159.out | refine below_set ?_ GE172.out | refine below_set ?_ GE179.out) | exact HB.out)⟩⟩
                    · rw [if_neg c67] at H
                      exact absurd H (by simp)
                  · rw [if_neg c66] at H
                    exact absurd H (by simp)
                · rw [if_neg c65] at H
                  have c65b0 : decide (x60_2 < (t175.length : Int)) = false := decide_eq_false c65
                  clear c65
                  replace H := Option.bind_eq_some_iff.mp H
                  obtain ⟨t183, A770, H⟩ := H
                  replace H : (if t183 = true then (some ((strOfNums x160004_2).toList == (strOfNums l0_7).toList)) else (some false)) = some r := H
                  have A77 := Aside0.mk A770
                  clear A770
                  by_cases c78 : t183 = true
                  · subst c78
                    have H1 : (some ((strOfNums x160004_2).toList == (strOfNums l0_7).toList)) = some r := by rw [if_pos rfl] at H; exact H
                    clear H
                    have H := H1
                    clear H1
                    obtain rfl := Option.some.inj H
                    have hnb79 := NB158_151.out
                    have hnc79 := NB151_158.out
                    have hnb80 := NB158_159.out
                    have hnc80 := NB159_158.out
                    have hnb81 := NB158_172.out
                    have hnc81 := NB172_158.out
                    have hnb82 := NB158_179.out
                    have hnc82 := NB179_158.out
                    have hcz83_0 : wr.cell? ⟨gb158, 0, none⟩ = some (.int .i64 t153) := (blk_cell BK158.out 0).trans rfl
                    have hcz83_1 : wr.cell? ⟨gb158, 1, none⟩ = some (.int .i64 t154) := (blk_cell BK158.out 1).trans rfl
                    have hcz83_2 : wr.cell? ⟨gb158, 2, none⟩ = some (u159002) := (blk_cell BK158.out 2).trans rfl
                    have hfz83_0 := blk_frozen BK158.out 0
                    have hfz83_1 := blk_frozen BK158.out 1
                    have hfz83_2 := blk_frozen BK158.out 2
                    have hnb84 := NB151_159.out
                    have hnc84 := NB159_151.out
                    have hnb85 := NB151_172.out
                    have hnc85 := NB172_151.out
                    have hnb86 := NB151_179.out
                    have hnc86 := NB179_151.out
                    have hcz87_0 : wr.cell? ⟨gb151, 0, none⟩ = some (.int .i64 a0_0) := (blk_cell BK151.out 0).trans rfl
                    have hcz87_1 : wr.cell? ⟨gb151, 1, none⟩ = some (.int .i64 a0_1) := (blk_cell BK151.out 1).trans rfl
                    have hcz87_2 : wr.cell? ⟨gb151, 2, none⟩ = some (.slice A0_2 l0_2.length c0_2) := (blk_cell BK151.out 2).trans rfl
                    have hcz87_3 : wr.cell? ⟨gb151, 3, none⟩ = some (.int .i64 a0_3) := (blk_cell BK151.out 3).trans rfl
                    have hcz87_4 : wr.cell? ⟨gb151, 4, none⟩ = some (.int .i64 a0_4) := (blk_cell BK151.out 4).trans rfl
                    have hcz87_5 : wr.cell? ⟨gb151, 5, none⟩ = some (.int .i64 a0_5) := (blk_cell BK151.out 5).trans rfl
                    have hcz87_6 : wr.cell? ⟨gb151, 6, none⟩ = some (.int .i64 a0_6) := (blk_cell BK151.out 6).trans rfl
                    have hcz87_7 : wr.cell? ⟨gb151, 7, none⟩ = some (.slice A0_7 l0_7.length c0_7) := (blk_cell BK151.out 7).trans rfl
                    have hcz87_8 : wr.cell? ⟨gb151, 8, none⟩ = some (.int .i64 a0_8) := (blk_cell BK151.out 8).trans rfl
                    have hcz87_9 : wr.cell? ⟨gb151, 9, none⟩ = some (.int .i64 a0_9) := (blk_cell BK151.out 9).trans rfl
                    have hcz87_10 : wr.cell? ⟨gb151, 10, none⟩ = some (.int .u8 a0_10) := (blk_cell BK151.out 10).trans rfl
                    have hfz87_0 := blk_frozen BK151.out 0
                    have hfz87_1 := blk_frozen BK151.out 1
                    have hfz87_2 := blk_frozen BK151.out 2
                    have hfz87_3 := blk_frozen BK151.out 3
                    have hfz87_4 := blk_frozen BK151.out 4
                    have hfz87_5 := blk_frozen BK151.out 5
                    have hfz87_6 := blk_frozen BK151.out 6
                    have hfz87_7 := blk_frozen BK151.out 7
                    have hfz87_8 := blk_frozen BK151.out 8
                    have hfz87_9 := blk_frozen BK151.out 9
                    have hfz87_10 := blk_frozen BK151.out 10
                    obtain ⟨Ao88, co88, eo88⟩ := Kd.R_slice HO_159002.out
                    subst eo88
                    go_wp2_with (first | ((with_reducible refine gate_callee (f := 26) rfl ?_); refine goesL_ (some 74) rfl rfl Try.func26 (by kernel_rfl) rfl #[.agg #[.int .i64 t153, .int .i64 t154, .slice Ao88 x159002_2.length co88], .agg #[.int .i64 a0_0, .int .i64 a0_1, .slice A0_2 l0_2.length c0_2]] rfl (by (try simp only [List.map_toArray, List.map_cons, List.map_nil]); first | done | rfl | (simp only [List.length_drop, List.length_take]; rfl)) ?_; (with_reducible refine (serifref22_Same.calls t153 t154 _ _ x159002_2 a0_0 a0_1 _ _ l0_2 true _ ?side1 ?side2 ?side3 ?side4 A77.out).mono ?_); (case side1 => repeat (first | exact (Kd.R_reads' HO_159002.out).2.2 | (with_reducible refine Kd.C_alloc ?_ _) | (with_reducible refine Kd.C_drewN ?_ _) | (with_reducible refine Kd.C_drew ?_))); (case side2 => exact (Kd.R_reads' HO_159002.out).2.1); (case side3 => repeat (first | exact (Kd.C_below HR0_2.out HB.out) | (with_reducible refine Kd.C_alloc ?_ _) | (with_reducible refine Kd.C_drewN ?_ _) | (with_reducible refine Kd.C_drew ?_))); (case side4 => exact HC0_2.out); rintro e w89 ⟨rfl, hb⟩; refine ⟨_, rfl, ?_⟩; have n0_ := Aside0.mk (Kd.R_below (by (with_reducible repeat (first | apply Kd.R_alloc | apply Kd.R_drewN | apply Kd.R_drew)); exact HO_159002.out) hb); have n1_ := Aside0.mk (Kd.R_below (by (with_reducible repeat (first | apply Kd.R_alloc | apply Kd.R_drewN | apply Kd.R_drew)); exact HO_160004.out) hb); have n2_ := Aside0.mk (Kd.R_below (by (with_reducible repeat (first | apply Kd.R_alloc | apply Kd.R_drewN | apply Kd.R_drew)); exact HO_173002.out) hb); have n3_ := Aside0.mk (Kd.R_below (by (with_reducible repeat (first | apply Kd.R_alloc | apply Kd.R_drewN | apply Kd.R_drew)); exact HO_180002.out) hb); have n4_ := Aside0.mk (blk_below (g := gb151) (o := .cells #[.int .i64 a0_0, .int .i64 a0_1, .slice A0_2 l0_2.length c0_2, .int .i64 a0_3, .int .i64 a0_4, .int .i64 a0_5, .int .i64 a0_6, .slice A0_7 l0_7.length c0_7, .int .i64 a0_8, .int .i64 a0_9, .int .u8 a0_10] 36 (0, 0)) (by (with_reducible repeat (first | refine blk_drewN ?_ _ | refine blk_drew ?_ | refine blk_alloc ?_ _)); exact BK151.out) hb); have n5_ := Aside0.mk (blk_below (g := gb158) (o := .cells #[.int .i64 t153, .int .i64 t154, .slice Ao88 x159002_2.length co88] 32 (0, 0)) (by (with_reducible repeat (first | refine blk_drewN ?_ _ | refine blk_drew ?_ | refine blk_alloc ?_ _)); exact BK158.out) hb); have n6_ := Aside0.mk (blk_below (g := gb159) (o := .cells #[.int .i64 a0_3, .int .i64 a0_4, .int .i64 a0_5, .int .i64 a0_6, u160004] 34 (0, 0)) (by (with_reducible repeat (first | refine blk_drewN ?_ _ | refine blk_drew ?_ | refine blk_alloc ?_ _)); exact BK159.out) hb); have n7_ := Aside0.mk (blk_below (g := gb172) (o := .cells #[.int .i64 t166, .int .i64 t167, u173002] 32 (0, 0)) (by (with_reducible repeat (first | refine blk_drewN ?_ _ | refine blk_drew ?_ | refine blk_alloc ?_ _)); exact BK172.out) hb); have n8_ := Aside0.mk (blk_below (g := gb179) (o := .cells #[.int .i64 t173, .int .i64 t174, u180002] 32 (0, 0)) (by (with_reducible repeat (first | refine blk_drewN ?_ _ | refine blk_drew ?_ | refine blk_alloc ?_ _)); exact BK179.out) hb); have n9_ := Aside0.mk (below_step (by repeat (first | (with_reducible first | exact HB.out | apply below_alloc | apply pw_below_drewN | apply below_drew1 | refine below_set ?_ GE151.out | refine below_set ?_ GE158.out | refine below_set ?_ GE159.out | refine below_set ?_ GE172.out | refine below_set ?_ GE179.out) | exact HB.out)) hb); clear HO_159002; clear HO_160004; clear HO_173002; clear HO_180002; clear BK151; clear BK158; clear BK159; clear BK172; clear BK179; clear HB; have HO_159002 := n0_; have HO_160004 := n1_; have HO_173002 := n2_; have HO_180002 := n3_; have BK151 := n4_; have BK158 := n5_; have BK159 := n6_; have BK172 := n7_; have BK179 := n8_; have HB := n9_; clear n0_ n1_ n2_ n3_ n4_ n5_ n6_ n7_ n8_ n9_; (try clear hb); (try clear hb2); (try clear hk); (try clear hi); have hnb90 := NB159_172.out; have hnc90 := NB172_159.out; have hnb91 := NB159_179.out; have hnc91 := NB179_159.out; have hcz92_0 : w89.cell? ⟨gb159, 0, none⟩ = some (.int .i64 a0_3) := (blk_cell BK159.out 0).trans rfl; have hcz92_1 : w89.cell? ⟨gb159, 1, none⟩ = some (.int .i64 a0_4) := (blk_cell BK159.out 1).trans rfl; have hcz92_2 : w89.cell? ⟨gb159, 2, none⟩ = some (.int .i64 a0_5) := (blk_cell BK159.out 2).trans rfl; have hcz92_3 : w89.cell? ⟨gb159, 3, none⟩ = some (.int .i64 a0_6) := (blk_cell BK159.out 3).trans rfl; have hcz92_4 : w89.cell? ⟨gb159, 4, none⟩ = some (u160004) := (blk_cell BK159.out 4).trans rfl; have hfz92_0 := blk_frozen BK159.out 0; have hfz92_1 := blk_frozen BK159.out 1; have hfz92_2 := blk_frozen BK159.out 2; have hfz92_3 := blk_frozen BK159.out 3; have hfz92_4 := blk_frozen BK159.out 4; have hcv93 := own_string (P := Try.prog) Try.underlying30 Try.underlying5 Try.underlying9 (Kd.own_of_R HO_160004.out); have hcv93b := fun (m_ : Nat) => own_string (P := Try.prog) Try.underlying30 Try.underlying5 Try.underlying9 (Kd.own_of_R (Kd.R_drewN HO_160004.out m_)); have hcz94_0 : w89.cell? ⟨gb151, 0, none⟩ = some (.int .i64 a0_0) := (blk_cell BK151.out 0).trans rfl; have hcz94_1 : w89.cell? ⟨gb151, 1, none⟩ = some (.int .i64 a0_1) := (blk_cell BK151.out 1).trans rfl; have hcz94_2 : w89.cell? ⟨gb151, 2, none⟩ = some (.slice A0_2 l0_2.length c0_2) := (blk_cell BK151.out 2).trans rfl; have hcz94_3 : w89.cell? ⟨gb151, 3, none⟩ = some (.int .i64 a0_3) := (blk_cell BK151.out 3).trans rfl; have hcz94_4 : w89.cell? ⟨gb151, 4, none⟩ = some (.int .i64 a0_4) := (blk_cell BK151.out 4).trans rfl; have hcz94_5 : w89.cell? ⟨gb151, 5, none⟩ = some (.int .i64 a0_5) := (blk_cell BK151.out 5).trans rfl; have hcz94_6 : w89.cell? ⟨gb151, 6, none⟩ = some (.int .i64 a0_6) := (blk_cell BK151.out 6).trans rfl; have hcz94_7 : w89.cell? ⟨gb151, 7, none⟩ = some (.slice A0_7 l0_7.length c0_7) := (blk_cell BK151.out 7).trans rfl; have hcz94_8 : w89.cell? ⟨gb151, 8, none⟩ = some (.int .i64 a0_8) := (blk_cell BK151.out 8).trans rfl; have hcz94_9 : w89.cell? ⟨gb151, 9, none⟩ = some (.int .i64 a0_9) := (blk_cell BK151.out 9).trans rfl; have hcz94_10 : w89.cell? ⟨gb151, 10, none⟩ = some (.int .u8 a0_10) := (blk_cell BK151.out 10).trans rfl; have hfz94_0 := blk_frozen BK151.out 0; have hfz94_1 := blk_frozen BK151.out 1; have hfz94_2 := blk_frozen BK151.out 2; have hfz94_3 := blk_frozen BK151.out 3; have hfz94_4 := blk_frozen BK151.out 4; have hfz94_5 := blk_frozen BK151.out 5; have hfz94_6 := blk_frozen BK151.out 6; have hfz94_7 := blk_frozen BK151.out 7; have hfz94_8 := blk_frozen BK151.out 8; have hfz94_9 := blk_frozen BK151.out 9; have hfz94_10 := blk_frozen BK151.out 10; have hcv95 := Kd.C_string (P := Try.prog) (A := A0_7) (c := c0_7) Try.underlying30 Try.underlying5 Try.underlying9 (Kd.C_below HR0_7.out HB.out); have hcv95b := fun (m_ : Nat) => Kd.C_string (P := Try.prog) (A := A0_7) (c := c0_7) Try.underlying30 Try.underlying5 Try.underlying9 (Kd.C_drewN (Kd.C_below HR0_7.out HB.out) m_)))
                    go_ret
                    exact ⟨by first | rfl | (simp [errW_none, errW_some] <;> rfl) | (simp [*, errW_none, errW_some] <;> rfl), by repeat (first | (with_reducible first | exact HB.out | apply below_alloc | apply pw_below_drewN | apply below_drew1 | refine below_set ?_ GE151.out | refine below_set ?_ GE158.out | refine below_set ?_ GE159.out | refine below_set ?_ GE172.out | refine below_set ?_ GE179.out) | exact HB.out)⟩
                  · replace c78 := Bool.eq_false_iff.mpr c78
                    subst c78
                    have H1 : (some false) = some r := by rw [if_neg (show ¬ (false = true) by decide)] at H; exact H
                    clear H
                    have H := H1
                    clear H1
                    obtain rfl := Option.some.inj H
                    have hnb96 := NB158_151.out
                    have hnc96 := NB151_158.out
                    have hnb97 := NB158_159.out
                    have hnc97 := NB159_158.out
                    have hnb98 := NB158_172.out
                    have hnc98 := NB172_158.out
                    have hnb99 := NB158_179.out
                    have hnc99 := NB179_158.out
                    have hcz100_0 : wr.cell? ⟨gb158, 0, none⟩ = some (.int .i64 t153) := (blk_cell BK158.out 0).trans rfl
                    have hcz100_1 : wr.cell? ⟨gb158, 1, none⟩ = some (.int .i64 t154) := (blk_cell BK158.out 1).trans rfl
                    have hcz100_2 : wr.cell? ⟨gb158, 2, none⟩ = some (u159002) := (blk_cell BK158.out 2).trans rfl
                    have hfz100_0 := blk_frozen BK158.out 0
                    have hfz100_1 := blk_frozen BK158.out 1
                    have hfz100_2 := blk_frozen BK158.out 2
                    have hnb101 := NB151_159.out
                    have hnc101 := NB159_151.out
                    have hnb102 := NB151_172.out
                    have hnc102 := NB172_151.out
                    have hnb103 := NB151_179.out
                    have hnc103 := NB179_151.out
                    have hcz104_0 : wr.cell? ⟨gb151, 0, none⟩ = some (.int .i64 a0_0) := (blk_cell BK151.out 0).trans rfl
                    have hcz104_1 : wr.cell? ⟨gb151, 1, none⟩ = some (.int .i64 a0_1) := (blk_cell BK151.out 1).trans rfl
                    have hcz104_2 : wr.cell? ⟨gb151, 2, none⟩ = some (.slice A0_2 l0_2.length c0_2) := (blk_cell BK151.out 2).trans rfl
                    have hcz104_3 : wr.cell? ⟨gb151, 3, none⟩ = some (.int .i64 a0_3) := (blk_cell BK151.out 3).trans rfl
                    have hcz104_4 : wr.cell? ⟨gb151, 4, none⟩ = some (.int .i64 a0_4) := (blk_cell BK151.out 4).trans rfl
                    have hcz104_5 : wr.cell? ⟨gb151, 5, none⟩ = some (.int .i64 a0_5) := (blk_cell BK151.out 5).trans rfl
                    have hcz104_6 : wr.cell? ⟨gb151, 6, none⟩ = some (.int .i64 a0_6) := (blk_cell BK151.out 6).trans rfl
                    have hcz104_7 : wr.cell? ⟨gb151, 7, none⟩ = some (.slice A0_7 l0_7.length c0_7) := (blk_cell BK151.out 7).trans rfl
                    have hcz104_8 : wr.cell? ⟨gb151, 8, none⟩ = some (.int .i64 a0_8) := (blk_cell BK151.out 8).trans rfl
                    have hcz104_9 : wr.cell? ⟨gb151, 9, none⟩ = some (.int .i64 a0_9) := (blk_cell BK151.out 9).trans rfl
                    have hcz104_10 : wr.cell? ⟨gb151, 10, none⟩ = some (.int .u8 a0_10) := (blk_cell BK151.out 10).trans rfl
                    have hfz104_0 := blk_frozen BK151.out 0
                    have hfz104_1 := blk_frozen BK151.out 1
                    have hfz104_2 := blk_frozen BK151.out 2
                    have hfz104_3 := blk_frozen BK151.out 3
                    have hfz104_4 := blk_frozen BK151.out 4
                    have hfz104_5 := blk_frozen BK151.out 5
                    have hfz104_6 := blk_frozen BK151.out 6
                    have hfz104_7 := blk_frozen BK151.out 7
                    have hfz104_8 := blk_frozen BK151.out 8
                    have hfz104_9 := blk_frozen BK151.out 9
                    have hfz104_10 := blk_frozen BK151.out 10
                    obtain ⟨Ao105, co105, eo105⟩ := Kd.R_slice HO_159002.out
                    subst eo105
                    go_wp2_with (first | ((with_reducible refine gate_callee (f := 26) rfl ?_); refine goesL_ (some 74) rfl rfl Try.func26 (by kernel_rfl) rfl #[.agg #[.int .i64 t153, .int .i64 t154, .slice Ao105 x159002_2.length co105], .agg #[.int .i64 a0_0, .int .i64 a0_1, .slice A0_2 l0_2.length c0_2]] rfl (by (try simp only [List.map_toArray, List.map_cons, List.map_nil]); first | done | rfl | (simp only [List.length_drop, List.length_take]; rfl)) ?_; (with_reducible refine (serifref22_Same.calls t153 t154 _ _ x159002_2 a0_0 a0_1 _ _ l0_2 false _ ?side1 ?side2 ?side3 ?side4 A77.out).mono ?_); (case side1 => repeat (first | exact (Kd.R_reads' HO_159002.out).2.2 | (with_reducible refine Kd.C_alloc ?_ _) | (with_reducible refine Kd.C_drewN ?_ _) | (with_reducible refine Kd.C_drew ?_))); (case side2 => exact (Kd.R_reads' HO_159002.out).2.1); (case side3 => repeat (first | exact (Kd.C_below HR0_2.out HB.out) | (with_reducible refine Kd.C_alloc ?_ _) | (with_reducible refine Kd.C_drewN ?_ _) | (with_reducible refine Kd.C_drew ?_))); (case side4 => exact HC0_2.out); rintro e w106 ⟨rfl, hb⟩; refine ⟨_, rfl, ?_⟩; have n0_ := Aside0.mk (Kd.R_below (by (with_reducible repeat (first | apply Kd.R_alloc | apply Kd.R_drewN | apply Kd.R_drew)); exact HO_159002.out) hb); have n1_ := Aside0.mk (Kd.R_below (by (with_reducible repeat (first | apply Kd.R_alloc | apply Kd.R_drewN | apply Kd.R_drew)); exact HO_160004.out) hb); have n2_ := Aside0.mk (Kd.R_below (by (with_reducible repeat (first | apply Kd.R_alloc | apply Kd.R_drewN | apply Kd.R_drew)); exact HO_173002.out) hb); have n3_ := Aside0.mk (Kd.R_below (by (with_reducible repeat (first | apply Kd.R_alloc | apply Kd.R_drewN | apply Kd.R_drew)); exact HO_180002.out) hb); have n4_ := Aside0.mk (blk_below (g := gb151) (o := .cells #[.int .i64 a0_0, .int .i64 a0_1, .slice A0_2 l0_2.length c0_2, .int .i64 a0_3, .int .i64 a0_4, .int .i64 a0_5, .int .i64 a0_6, .slice A0_7 l0_7.length c0_7, .int .i64 a0_8, .int .i64 a0_9, .int .u8 a0_10] 36 (0, 0)) (by (with_reducible repeat (first | refine blk_drewN ?_ _ | refine blk_drew ?_ | refine blk_alloc ?_ _)); exact BK151.out) hb); have n5_ := Aside0.mk (blk_below (g := gb158) (o := .cells #[.int .i64 t153, .int .i64 t154, .slice Ao105 x159002_2.length co105] 32 (0, 0)) (by (with_reducible repeat (first | refine blk_drewN ?_ _ | refine blk_drew ?_ | refine blk_alloc ?_ _)); exact BK158.out) hb); have n6_ := Aside0.mk (blk_below (g := gb159) (o := .cells #[.int .i64 a0_3, .int .i64 a0_4, .int .i64 a0_5, .int .i64 a0_6, u160004] 34 (0, 0)) (by (with_reducible repeat (first | refine blk_drewN ?_ _ | refine blk_drew ?_ | refine blk_alloc ?_ _)); exact BK159.out) hb); have n7_ := Aside0.mk (blk_below (g := gb172) (o := .cells #[.int .i64 t166, .int .i64 t167, u173002] 32 (0, 0)) (by (with_reducible repeat (first | refine blk_drewN ?_ _ | refine blk_drew ?_ | refine blk_alloc ?_ _)); exact BK172.out) hb); have n8_ := Aside0.mk (blk_below (g := gb179) (o := .cells #[.int .i64 t173, .int .i64 t174, u180002] 32 (0, 0)) (by (with_reducible repeat (first | refine blk_drewN ?_ _ | refine blk_drew ?_ | refine blk_alloc ?_ _)); exact BK179.out) hb); have n9_ := Aside0.mk (below_step (by repeat (first | (with_reducible first | exact HB.out | apply below_alloc | apply pw_below_drewN | apply below_drew1 | refine below_set ?_ GE151.out | refine below_set ?_ GE158.out | refine below_set ?_ GE159.out | refine below_set ?_ GE172.out | refine below_set ?_ GE179.out) | exact HB.out)) hb); clear HO_159002; clear HO_160004; clear HO_173002; clear HO_180002; clear BK151; clear BK158; clear BK159; clear BK172; clear BK179; clear HB; have HO_159002 := n0_; have HO_160004 := n1_; have HO_173002 := n2_; have HO_180002 := n3_; have BK151 := n4_; have BK158 := n5_; have BK159 := n6_; have BK172 := n7_; have BK179 := n8_; have HB := n9_; clear n0_ n1_ n2_ n3_ n4_ n5_ n6_ n7_ n8_ n9_; (try clear hb); (try clear hb2); (try clear hk); (try clear hi)))
                    go_ret
                    exact ⟨by first | rfl | (simp [errW_none, errW_some] <;> rfl) | (simp [*, errW_none, errW_some] <;> rfl), by repeat (first | (with_reducible first | exact HB.out | apply below_alloc | apply pw_below_drewN | apply below_drew1 | refine below_set ?_ GE151.out | refine below_set ?_ GE158.out | refine below_set ?_ GE159.out | refine below_set ?_ GE172.out | refine below_set ?_ GE179.out) | exact HB.out)⟩
    · rw [if_neg c5] at H
      exact absurd H (by simp)
  · replace c3 := Bool.eq_false_iff.mpr c3
    subst c3
    have H1 : (some false) = some r := by rw [if_neg (show ¬ (false = true) by decide)] at H; exact H
    clear H
    have H := H1
    clear H1
    obtain rfl := Option.some.inj H
    go_enter Try.func6, Try.ntmps6
    go_wp2_with (first | ((with_reducible refine gate_dst (N := 1) rfl ?_); refine box_event ?hg (N := 1) ?hd (cs := #[.int .i64 a0_0, .int .i64 a0_1, .slice A0_2 l0_2.length c0_2, .int .i64 a0_3, .int .i64 a0_4, .int .i64 a0_5, .int .i64 a0_6, .slice A0_7 l0_7.length c0_7, .int .i64 a0_8, .int .i64 a0_9, .int .u8 a0_10]) (t := 36) ?hr ?_; (case hd => rfl); (case hg => rfl); (case hr => first | (go_simp; done) | (go_simp; rfl)); intro gb151 hg w107 hbox hb; have n0_ := Aside0.mk (below_step (by repeat (first | (with_reducible first | exact HB.out | apply below_alloc | apply pw_below_drewN | apply below_drew1) | exact HB.out)) hb); have n1_ := Aside0.mk (hbox); have n2_ := Aside0.mk ((by rw [hg]; exact (below_size (by repeat (first | (with_reducible first | exact HB.out | apply below_alloc | apply pw_below_drewN | apply below_drew1) | exact HB.out))) : w.heap.size ≤ gb151)); have n3_ := Aside0.mk ((by rw [hg]; exact (below_size (by repeat (first | (with_reducible first | exact HB.out | apply below_alloc | apply pw_below_drewN | apply below_drew1) | exact HB.out))) : w.heap.size ≤ gb151)); clear HB; have HB := n0_; have BK151 := n1_; have GW151 := n2_; have GE151 := n3_; clear n0_ n1_ n2_ n3_; clear hb hbox hg) | ((with_reducible refine gate_callee (f := 22) rfl ?_); refine goesL_ (some 10) rfl rfl Try.func22 (by kernel_rfl) rfl #[] rfl (by (try simp only [List.map_toArray, List.map_cons, List.map_nil]); first | done | rfl | (simp only [List.length_drop, List.length_take]; rfl)) ?_; (with_reducible refine (seriflaw22_blendAlive.calls  false _ A2.out).mono ?_); rintro e w108 ⟨rfl, hb⟩; refine ⟨_, rfl, ?_⟩; have n0_ := Aside0.mk (blk_below (g := gb151) (o := .cells #[.int .i64 a0_0, .int .i64 a0_1, .slice A0_2 l0_2.length c0_2, .int .i64 a0_3, .int .i64 a0_4, .int .i64 a0_5, .int .i64 a0_6, .slice A0_7 l0_7.length c0_7, .int .i64 a0_8, .int .i64 a0_9, .int .u8 a0_10] 36 (0, 0)) (by (with_reducible repeat (first | refine blk_drewN ?_ _ | refine blk_drew ?_ | refine blk_alloc ?_ _)); exact BK151.out) hb); have n1_ := Aside0.mk (below_step (by repeat (first | (with_reducible first | exact HB.out | apply below_alloc | apply pw_below_drewN | apply below_drew1 | refine below_set ?_ GE151.out) | exact HB.out)) hb); clear BK151; clear HB; have BK151 := n0_; have HB := n1_; clear n0_ n1_; (try clear hb); (try clear hb2); (try clear hk); (try clear hi)))
    go_ret
    exact ⟨by first | rfl | (simp [errW_none, errW_some] <;> rfl) | (simp [*, errW_none, errW_some] <;> rfl), by repeat (first | (with_reducible first | exact HB.out | apply below_alloc | apply pw_below_drewN | apply below_drew1 | refine below_set ?_ GE151.out) | exact HB.out)⟩

-- NOT PRINTED: function 7 (seriflaw22_BlendOutside)

end Go.Proofs.Ytplnaannfnhhgab.E
