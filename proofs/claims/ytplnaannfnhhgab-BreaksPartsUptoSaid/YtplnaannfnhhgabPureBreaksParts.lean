import Derived.Test.YtplnaannfnhhgabPx6
import Derived.Test.YtplnaannfnhhgabBrk
namespace Go.Proofs.Ytplnaannfnhhgab.Pure
open Go.RowKit Go.Proofs.Ytplnaannfnhhgab.P Go.Proofs.Ytplnaannfnhhgab.F Go.Proofs.Ytplnaannfnhhgab.B Go.Proofs.YtplnaannfnhhgabW.PrintWords Go.Proofs.YtplnaannfnhhgabW.PrintLast

theorem outL_three : ∀ (l : List (Int × Bool)), outL 3 l = outL 31 l
  | [] => rfl
  | [_] => rfl
  | x :: y :: r => by
    unfold outL
    by_cases h : x.1 = 4
    · have e : ∀ c, upd c x.1 = c := fun c => by simp [upd, h]
      rw [e, e, outL_three (y :: r)]
      have : btw x.1 y.1 3 y.2 = btw x.1 y.1 31 y.2 := by simp [btw]
      rw [this]
    · have e : ∀ c, upd c x.1 = x.1 := fun c => by simp [upd, h]
      rw [e, e]
theorem outL_parts (j : Bool) (B : List (Int × Bool)) : ∀ (A : List (Int × Bool)) (c : Int), outL c (A ++ (3, j) :: B) = outL c (A ++ [(3, j)]) ++ outL 31 B
  | [], c => by
    cases B with
    | nil => simp [outL]
    | cons y r =>
      have e : ∀ b c j, btw 3 b c j = 2 := fun b c j => by simp [btw]
      simp only [List.nil_append, outL, e, upd]
      rw [if_neg (by decide), outL_three]
      rfl
  | [x], c => by
    have := outL_parts j B [] (upd c x.1)
    simp only [List.nil_append] at this
    simp only [List.cons_append, List.nil_append, outL, this, List.cons_append]
  | x :: y :: A, c => by
    have := outL_parts j B (y :: A) (upd c x.1)
    simp only [List.cons_append] at this
    simp only [List.cons_append, outL, this]
theorem clsL_three (b : List Int) : clsL (some 3) b = clsL none b := by
  cases b with
  | nil => rfl
  | cons x b =>
    have e : stepC (some 3) x = stepC none x := by simp [stepC, ends]
    rw [clsL, clsL, e]
theorem brkL_parts (a b : List Int) : brkL ((a ++ [10]) ++ b) = brkL (a ++ [10]) ++ brkL b := by
  have h10 : cls 10 = 3 := by decide +kernel
  have e : ∀ p, stepC p 10 = (3, false) := fun p => by simp [stepC, h10]
  unfold brkL
  have e1 : clsL none ((a ++ [10]) ++ b) = clsL none a ++ (3, false) :: clsL none b := by
    rw [List.append_assoc, clsL_append]
    simp only [List.cons_append, List.nil_append, clsL, e, clsL_three]
  have e2 : clsL none (a ++ [10]) = clsL none a ++ [(3, false)] := by
    rw [clsL_append]
    simp only [clsL, e]
  rw [e1, e2]
  exact outL_parts false _ _ _

theorem BreaksParts : ∀ (l0 : List Int) (l1 : List Int), (∀ x ∈ l0, (Lit.int .i64 x).wf = true) → (∀ x ∈ l1, (Lit.int .i64 x).wf = true) → l0.length + l1.length ≤ 1048576 → ∃ k, seriflaw18_BreaksParts.f k l0 l1 = some true := by
  intro l0 l1 _ _ hb
  refine Ev.rounds (g := fun k => seriflaw18_BreaksParts.f k l0 l1) ?_
  refine Ev.bind alive_ev ?_
  have n1 : (brkL (l0 ++ [10])).length = l0.length + 1 := by rw [brkL_len]; simp
  have n2 : (brkL l1).length = l1.length := brkL_len l1
  refine Ev.congr (f := fun k => (breaks_Breaks.f k (l0 ++ [10])).bind fun t249 => (breaks_Breaks.f k l1).bind fun t258 => if t249.length + t258.length < 17592186044416 then ((breaks_Breaks.f k ((l0 ++ [10]) ++ l1)).bind fun t264 => (serifref02_SameInts.f k t264 (t249 ++ t258)).bind fun t267 => some t267) else none) (fun k => ?_) ?_
  · simp only [if_true, Option.bind_some, List.nil_append, List.length_nil, List.length_append, List.length_cons, Nat.zero_add]
    rw [if_pos (by omega), if_pos (by omega), if_pos (by omega), if_pos (by omega)]
    simp only [show l1.length < 17592186044416 from by omega, if_true]
  refine Ev.bind (brk_ev _ (by simp; omega)) ?_
  refine Ev.bind (brk_ev _ (by omega)) ?_
  refine Ev.congr (f := fun k => (breaks_Breaks.f k ((l0 ++ [10]) ++ l1)).bind fun t264 => (serifref02_SameInts.f k t264 (brkL (l0 ++ [10]) ++ brkL l1)).bind fun t267 => some t267) (fun k => by rw [if_pos (by omega)]) ?_
  refine Ev.bind (brk_ev _ (by simp; omega)) ?_
  rw [brkL_parts]
  refine Ev.bind (f := fun _ t => some t) (same_true _ (by simp; omega)) (Ev.now _)

end Go.Proofs.Ytplnaannfnhhgab.Pure
