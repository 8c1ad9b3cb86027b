import Derived.Test.YtplnaannfnhhgabPx10
import Derived.Test.YtplnaannfnhhgabRefBrk
namespace Go.Proofs.Ytplnaannfnhhgab.Pure
open Go.RowKit Go.Proofs.Ytplnaannfnhhgab.P Go.Proofs.Ytplnaannfnhhgab.F Go.Proofs.Ytplnaannfnhhgab.B Go.Proofs.YtplnaannfnhhgabW.PrintWords Go.Proofs.YtplnaannfnhhgabW.PrintLast
set_option linter.unusedVariables false

theorem outL_at : ∀ (A : List (Int × Bool)) (c : Int) (z w : Int × Bool) (R : List (Int × Bool)), rd (outL c (A ++ z :: w :: R)) (A.length : Int) = btw z.1 w.1 (upd (updF c A) z.1) w.2
  | [], c, z, w, R => by simp [outL, rd, updF]
  | [x], c, z, w, R => by simp [outL, rd, updF]
  | x :: y :: A, c, z, w, R => by
    have := outL_at (y :: A) (upd c x.1) z w R
    simp only [rd, List.length_cons, List.cons_append] at this ⊢
    have e1 : ((A.length + 1 + 1 : Nat) : Int).toNat = A.length + 1 + 1 := by omega
    have e2 : ((A.length + 1 : Nat) : Int).toNat = A.length + 1 := by omega
    rw [e2] at this
    rw [e1, outL, List.getD_cons_succ, this]
    rfl
/-- What stands behind the character x ahead of y in a text. -/
theorem brk_at (pre r : List Int) (x y : Int) : rd (brkL (pre ++ x :: y :: r)) (pre.length : Int) = btw (stepC (lastC none pre) x).1 (stepC (some (stepC (lastC none pre) x).1) y).1 (upd (updF 31 (clsL none pre)) (stepC (lastC none pre) x).1) (stepC (some (stepC (lastC none pre) x).1) y).2 := by
  have := outL_at (clsL none pre) 31 (stepC (lastC none pre) x) (stepC (some (stepC (lastC none pre) x).1) y) (clsL (some (stepC (some (stepC (lastC none pre) x).1) y).1) r)
  rw [clsL_len] at this
  unfold brkL
  rw [clsL_append]
  exact this
theorem step_no8 (p : Option Int) (x : Int) (h : cls x ≠ 8) : stepC p x = (cls x, false) := by
  unfold stepC
  rw [if_neg h]
/-- b, ahead of a blank: never 1. -/
theorem blank_not (a c : Int) (j : Bool) : btw a 4 c j ≠ 1 := by
  unfold btw
  split
  · decide
  · split
    · decide
    · split
      · decide
      · rw [if_pos (by omega)]
        decide
theorem word_btw (a b : Int) (c : Int) (j : Bool) (ha : a = 0 ∨ a = 17) (hb : b = 0 ∨ b = 17) : btw a b (upd c a) j = 0 := by
  have hu : upd c a = a := by unfold upd; rw [if_neg (by omega)]
  rw [hu]
  rcases ha with rfl | rfl <;> rcases hb with rfl | rfl <;> cases j <;> decide
theorem join_btw (a : Int) (c : Int) (ha : a = 0 ∨ a = 17) : btw a a (upd c a) true = 0 := by
  have hu : upd c a = a := by unfold upd; rw [if_neg (by omega)]
  rw [hu]
  rcases ha with rfl | rfl <;> decide
theorem mark_btw (p : Option Int) (x y c : Int) (hx : cls x = 0 ∨ cls x = 17) (hy : cls y = 8) : btw (stepC p x).1 (stepC (some (stepC p x).1) y).1 (upd c (stepC p x).1) (stepC (some (stepC p x).1) y).2 = 0 := by
  have e1 : (stepC p x).1 = cls x := by rw [step_no8 _ _ (by omega)]
  have e2 : ends (cls x) = false := by rcases hx with h | h <;> rw [h] <;> rfl
  rw [e1, step_some _ _ hy, e2]
  exact join_btw _ _ hx
/-- A mark behind a mark behind a letter. -/
theorem mark2_btw (p : Option Int) (z x y c : Int) (hz : cls z = 0) (hx : cls x = 8) (hy : cls y = 8) : btw (stepC (some (stepC p z).1) x).1 (stepC (some (stepC (some (stepC p z).1) x).1) y).1 (upd c (stepC (some (stepC p z).1) x).1) (stepC (some (stepC (some (stepC p z).1) x).1) y).2 = 0 := by
  have e1 : (stepC p z).1 = 0 := by rw [step_no8 _ _ (by omega)]; exact hz
  have e2 : stepC (some 0) x = (0, true) := by rw [step_some _ _ hx]; rfl
  have e3 : stepC (some 0) y = (0, true) := by rw [step_some _ _ hy]; rfl
  rw [e1, e2, e3]
  exact join_btw 0 c (Or.inl rfl)
def wordB (x y : Int) : Bool := (cls x == 0 || cls x == 17) && (cls y == 0 || cls y == 17)
theorem j2_ev (l : List Int) (hl : l.length ≤ 17592186044416) (pre r : List Int) (x y : Int) (h : l = pre ++ x :: y :: r)
    (ih : Ev (fun k => seriflaw18_BreaksBlanks.l0 k l (brkL l) ((pre.length + 1 : Nat) : Int)) true) :
    Ev (fun k => seriflaw18_BreaksBlanks.j2 k l (brkL l) (pre.length : Int) (cls x) (cls y) (wordB x y) false) true := by
  have hlen : l.length = pre.length + 2 + r.length := by rw [h]; simp; omega
  have hbl : (brkL l).length = l.length := brkL_len l
  have e1 : wrap64 ((pre.length : Int) + 1) = ((pre.length + 1 : Nat) : Int) := by rw [w64 (by omega) (by omega)]; omega
  have hat := brk_at pre r x y
  rw [← h] at hat
  by_cases h0 : rd (brkL l) (pre.length : Int) = 0
  · refine Ev.step (fun k => ?_) ih
    simp only [seriflaw18_BreaksBlanks.j2]
    rw [if_neg (by decide), if_pos (by omega), if_pos (by omega), if_pos h0, e1]
  · have hw : wordB x y = false := by
      apply Classical.byContradiction
      intro hn
      have hn' : wordB x y = true := by simpa using hn
      simp only [wordB, Bool.and_eq_true, Bool.or_eq_true, beq_iff_eq] at hn'
      refine h0 ?_
      rw [hat]
      have ex : (stepC (lastC none pre) x).1 = cls x := by rw [step_no8 _ _ (by omega)]
      rw [ex]
      have ey : (stepC (some (cls x)) y).1 = cls y := by rw [step_no8 _ _ (by omega)]
      rw [ey]
      exact word_btw _ _ _ _ hn'.1 hn'.2
    rw [hw]
    by_cases h8 : cls y = 8
    · have n0 : ¬ cls x = 0 := fun hx => h0 (by rw [hat]; exact mark_btw _ _ _ _ (Or.inl hx) h8)
      have n17 : ¬ cls x = 17 := fun hx => h0 (by rw [hat]; exact mark_btw _ _ _ _ (Or.inr hx) h8)
      by_cases hx8 : cls x = 8
      · by_cases hp : 0 < pre.length
        · obtain ⟨p', z, rfl⟩ : ∃ p' z, pre = p' ++ [z] := ⟨pre.dropLast, pre.getLast (by intro e; rw [e] at hp; simp at hp), (List.dropLast_concat_getLast _).symm⟩
          have eL : ((p' ++ [z]).length : Nat) = p'.length + 1 := by simp
          have em : wrap64 (((p' ++ [z]).length : Nat) - 1 : Int) = (p'.length : Int) := by rw [w64 (by omega) (by omega)]; omega
          have ez : rd l (p'.length : Int) = z := by rw [h, List.append_assoc]; exact rd_at p' _ z
          have nz : ¬ cls z = 0 := fun hz => h0 (by
            rw [hat, lastC_app]
            exact mark2_btw _ z x y _ hz hx8 h8)
          have nz' : ¬ (lookT z).2.2 = 0 := nz
          by_cases hb : rd (brkL l) (p'.length : Int) = 0
          · refine Ev.step (fun k => ?_) ih
            simp only [seriflaw18_BreaksBlanks.j2]
            rw [if_neg (by decide), if_pos (by omega), if_pos (by omega), if_neg h0, if_neg (by decide), if_pos h8, if_neg n0, if_neg n17, if_pos hx8, if_pos (by omega), em, if_pos (by omega), if_pos (by omega), if_pos hb, if_pos (by omega), ez, look_f, Option.bind_some, if_neg nz', e1]
          · refine Ev.step (fun k => ?_) ih
            simp only [seriflaw18_BreaksBlanks.j2]
            rw [if_neg (by decide), if_pos (by omega), if_pos (by omega), if_neg h0, if_neg (by decide), if_pos h8, if_neg n0, if_neg n17, if_pos hx8, if_pos (by omega), em, if_pos (by omega), if_pos (by omega), if_neg hb, e1]
        · refine Ev.step (fun k => ?_) ih
          simp only [seriflaw18_BreaksBlanks.j2]
          rw [if_neg (by decide), if_pos (by omega), if_pos (by omega), if_neg h0, if_neg (by decide), if_pos h8, if_neg n0, if_neg n17, if_pos hx8, if_neg (by omega), e1]
      · refine Ev.step (fun k => ?_) ih
        simp only [seriflaw18_BreaksBlanks.j2]
        rw [if_neg (by decide), if_pos (by omega), if_pos (by omega), if_neg h0, if_neg (by decide), if_pos h8, if_neg n0, if_neg n17, if_neg hx8, e1]
    · refine Ev.step (fun k => ?_) ih
      simp only [seriflaw18_BreaksBlanks.j2]
      rw [if_neg (by decide), if_pos (by omega), if_pos (by omega), if_neg h0, if_neg (by decide), if_neg h8, e1]
theorem j1_blank (l : List Int) (hl : l.length ≤ 17592186044416) (pre r : List Int) (x y : Int) (h : l = pre ++ x :: y :: r)
    (ih : Ev (fun k => seriflaw18_BreaksBlanks.l0 k l (brkL l) ((pre.length + 1 : Nat) : Int)) true) :
    Ev (fun k => seriflaw18_BreaksBlanks.j1 k l (brkL l) (pre.length : Int) (cls x) (cls y) (wordB x y)) true := by
  have hlen : l.length = pre.length + 2 + r.length := by rw [h]; simp; omega
  have hbl : (brkL l).length = l.length := brkL_len l
  have h2 := j2_ev l hl pre r x y h ih
  have hat := brk_at pre r x y
  rw [← h] at hat
  by_cases h1 : rd (brkL l) (pre.length : Int) = 1
  · have n4 : ¬ cls y = 4 := fun h4 => by
      rw [hat] at h1
      have ey : ∀ p, (stepC p y).1 = 4 := fun p => by rw [step_no8 _ _ (by omega)]; exact h4
      rw [ey] at h1
      exact blank_not _ _ _ h1
    have hw : wordB x y = false := by
      apply Classical.byContradiction
      intro hn
      have hn' : wordB x y = true := by simpa using hn
      simp only [wordB, Bool.and_eq_true, Bool.or_eq_true, beq_iff_eq] at hn'
      have ex : (stepC (lastC none pre) x).1 = cls x := by rw [step_no8 _ _ (by omega)]
      have ey : (stepC (some (cls x)) y).1 = cls y := by rw [step_no8 _ _ (by omega)]
      rw [hat, ex, ey, word_btw _ _ _ _ hn'.1 hn'.2] at h1
      cases h1
    rw [hw] at h2 ⊢
    refine Ev.step (fun k => ?_) h2
    simp only [seriflaw18_BreaksBlanks.j1]
    rw [if_pos (by omega), if_pos (by omega), if_pos h1, if_neg n4]
  · refine Ev.step (fun k => ?_) h2
    simp only [seriflaw18_BreaksBlanks.j1]
    rw [if_pos (by omega), if_pos (by omega), if_neg h1]
theorem blanks_loop (l : List Int) (hl : l.length ≤ 17592186044416) : ∀ (suf pre : List Int), l = pre ++ suf → Ev (fun k => seriflaw18_BreaksBlanks.l0 k l (brkL l) (pre.length : Int)) true
  | [], pre, h => by
    have hlen : l.length = pre.length := by rw [h]; simp
    refine Ev.step (f := fun _ => some true) (fun k => ?_) (Ev.now _)
    simp only [seriflaw18_BreaksBlanks.l0]
    rw [if_neg (by rw [w64 (by omega) (by omega)]; omega)]
  | [x], pre, h => by
    have hlen : l.length = pre.length + 1 := by rw [h]; simp
    refine Ev.step (f := fun _ => some true) (fun k => ?_) (Ev.now _)
    simp only [seriflaw18_BreaksBlanks.l0]
    rw [if_neg (by rw [w64 (by omega) (by omega)]; omega)]
  | x :: y :: r, pre, h => by
    have hlen : l.length = pre.length + 2 + r.length := by rw [h]; simp; omega
    have ih := blanks_loop l hl (y :: r) (pre ++ [x]) (by rw [h]; simp)
    have eL : (pre ++ [x]).length = pre.length + 1 := by simp
    rw [eL] at ih
    have hj := j1_blank l hl pre r x y h ih
    have e1 : wrap64 ((pre.length : Int) + 1) = ((pre.length + 1 : Nat) : Int) := by rw [w64 (by omega) (by omega)]; omega
    have ex : rd l (pre.length : Int) = x := by rw [h]; exact rd_at pre _ x
    have ey : rd l ((pre.length + 1 : Nat) : Int) = y := by
      have := rd_at (pre ++ [x]) r y
      rw [eL] at this
      rw [h]
      simpa using this
    refine Ev.step (fun k => ?_) hj
    simp only [seriflaw18_BreaksBlanks.l0]
    rw [if_pos (by rw [w64 (by omega) (by omega)]; omega), if_pos (by omega), if_pos (by omega), ex, look_f, Option.bind_some, e1, if_pos (by omega), if_pos (by omega), ey, look_f, Option.bind_some]
    show (if cls x = 0 then _ else _) = _
    change (if cls x = 0 then (if cls y = 0 then seriflaw18_BreaksBlanks.j1 k l (brkL l) (pre.length : Int) (cls x) (cls y) true else seriflaw18_BreaksBlanks.j1 k l (brkL l) (pre.length : Int) (cls x) (cls y) (cls y == 17)) else if cls x = 17 then (if cls y = 0 then seriflaw18_BreaksBlanks.j1 k l (brkL l) (pre.length : Int) (cls x) (cls y) true else seriflaw18_BreaksBlanks.j1 k l (brkL l) (pre.length : Int) (cls x) (cls y) (cls y == 17)) else seriflaw18_BreaksBlanks.j1 k l (brkL l) (pre.length : Int) (cls x) (cls y) false) = _
    by_cases hx0 : cls x = 0
    · rw [if_pos hx0]
      by_cases hy0 : cls y = 0
      · rw [if_pos hy0]
        have : wordB x y = true := by simp [wordB, hx0, hy0]
        rw [this]
      · rw [if_neg hy0]
        have : wordB x y = (cls y == 17) := by simp [wordB, hx0, hy0]
        rw [this]
    · rw [if_neg hx0]
      by_cases hx7 : cls x = 17
      · rw [if_pos hx7]
        by_cases hy0 : cls y = 0
        · rw [if_pos hy0]
          have : wordB x y = true := by simp [wordB, hx7, hy0]
          rw [this]
        · rw [if_neg hy0]
          have : wordB x y = (cls y == 17) := by simp [wordB, hx7, hy0]
          rw [this]
      · rw [if_neg hx7]
        have : wordB x y = false := by simp [wordB, hx0, hx7]
        rw [this]
theorem BreaksBlanks : seriflaw18_BreaksBlanks.Pure := by
  intro l0 _ hb _
  refine Ev.rounds (g := fun k => seriflaw18_BreaksBlanks.f k l0) ?_
  refine Ev.bind alive_ev ?_
  have hbl : (brkL l0).length = l0.length := brkL_len l0
  refine Ev.congr (f := fun k => (breaks_Breaks.f k l0).bind fun t336 => if (t336.length : Int) = (l0.length : Int) then seriflaw18_BreaksBlanks.l0 k l0 t336 0 else some false) (fun k => ?_) ?_
  · simp only [if_true, Option.bind_some, List.nil_append, List.length_nil, Nat.zero_add]
    rw [if_pos (by omega)]
  · refine Ev.bind (brk_ev _ (by omega)) ?_
    refine Ev.congr (fun k => ?_) (blanks_loop l0 (by omega) l0 [] rfl)
    rw [if_pos (by omega)]
    rfl

end Go.Proofs.Ytplnaannfnhhgab.Pure
