/- The reference's answer for breaks, rule by rule, is the walk's. -/
import Derived.Test.YtplnaannfnhhgabPx9
import Derived.Test.YtplnaannfnhhgabBrk
namespace Go.Proofs.Ytplnaannfnhhgab.B
open Go.RowKit Go.Proofs.Ytplnaannfnhhgab.P Go.Proofs.Ytplnaannfnhhgab.F Go.Proofs.YtplnaannfnhhgabW.PrintWords Go.Proofs.YtplnaannfnhhgabW.PrintLast
set_option linter.unusedVariables false
set_option linter.unusedSimpArgs false

theorem look_f (x : Int) : serifref12_Look.f x = some (lookT x) := rfl
theorem plain_f (a : Int) : serifref18_plain.f a = some (ends a) := by
  unfold serifref18_plain.f ends
  by_cases h1 : a = 1
  · simp [h1]
  · by_cases h2 : a = 2
    · simp [h2]
    · by_cases h3 : a = 3
      · simp [h3]
      · by_cases h4 : a = 4
        · simp [h4]
        · have e1 : (a == 1) = false := by rw [beq_eq_false_iff_ne]; exact h1
          have e2 : (a == 2) = false := by rw [beq_eq_false_iff_ne]; exact h2
          have e3 : (a == 3) = false := by rw [beq_eq_false_iff_ne]; exact h3
          have e4 : (a == 4) = false := by rw [beq_eq_false_iff_ne]; exact h4
          rw [if_neg h1, if_neg h2, if_neg h3, if_neg h4, e1, e2, e3, e4]
          rfl
theorem step_ends (p : Option Int) (x : Int) (h : cls x = 8) : ends (stepC p x).1 = false := by
  unfold stepC
  rw [if_pos h]
  split
  · rfl
  · split
    · rfl
    · rename_i hh
      simpa using hh
theorem lastC_app : ∀ (a : List Int) (p : Option Int) (x : Int), lastC p (a ++ [x]) = some (stepC (lastC p a) x).1
  | [], _, _ => rfl
  | y :: a, p, x => by simp only [List.cons_append, lastC, lastC_app a]
theorem step_some (q x : Int) (hx : cls x = 8) : stepC (some q) x = if ends q = true then (0, false) else (q, true) := by
  unfold stepC
  rw [if_pos hx]
theorem step_again (p : Option Int) (y x : Int) (hx : cls x = 8) : (stepC (some (stepC p y).1) x).1 = if ends (cls y) = true then 0 else (stepC p y).1 := by
  rw [step_some _ _ hx]
  by_cases hy : cls y = 8
  · have h1 := step_ends p y hy
    have h2 : ends (cls y) = false := by rw [hy]; rfl
    rw [h2, h1]
    rfl
  · have e : (stepC p y).1 = cls y := by simp [stepC, hy]
    rw [e]
    by_cases he : ends (cls y) = true
    · rw [if_pos he, if_pos he]
    · rw [if_neg he, if_neg he]
theorem class_loop (l : List Int) (hl : l.length ≤ 35184372088832) : ∀ (n : Nat) (pre suf : List Int) (x : Int), pre.length = n → l = pre ++ x :: suf →
    Ev (fun k => serifref18_Class.l0 k l (cls x) (pre.length : Int)) (stepC (lastC none pre) x).1
  | 0, pre, suf, x, hn, h => by
    obtain rfl := List.eq_nil_of_length_eq_zero hn
    by_cases h8 : cls x = 8
    · refine Ev.step (f := fun k => serifref18_Class.j1 k l (cls x) 0 false) (fun k => ?_) (Ev.step (f := fun _ => some 0) (fun k => ?_) ?_)
      · simp only [serifref18_Class.l0]
        rw [if_pos h8]
        rfl
      · simp only [serifref18_Class.j1]
        rw [if_neg (by decide), if_pos h8]
      · have e : (stepC (lastC none []) x).1 = 0 := by simp [stepC, lastC, h8]
        rw [e]
        exact Ev.now _
    · refine Ev.step (f := fun k => serifref18_Class.j1 k l (cls x) 0 false) (fun k => ?_) (Ev.step (f := fun _ => some (cls x)) (fun k => ?_) ?_)
      · simp only [serifref18_Class.l0]
        rw [if_neg h8]
        rfl
      · simp only [serifref18_Class.j1]
        rw [if_neg (by decide), if_neg h8]
      · have e : (stepC (lastC none []) x).1 = cls x := by simp [stepC, h8]
        rw [e]
        exact Ev.now _
  | n + 1, pre, suf, x, hn, h => by
    by_cases h8 : cls x = 8
    · obtain ⟨p', y, rfl⟩ : ∃ p' y, pre = p' ++ [y] := ⟨pre.dropLast, pre.getLast (by intro e; rw [e] at hn; cases hn), (List.dropLast_concat_getLast _).symm⟩
      have hp : p'.length = n := by simpa using hn
      have h' : l = p' ++ y :: (x :: suf) := by rw [h]; simp
      have hlen : l.length = p'.length + 1 + 1 + suf.length := by rw [h]; simp; omega
      have ih := class_loop l hl n p' (x :: suf) y hp h'
      have ej : wrap64 (((p' ++ [y]).length : Nat) - 1 : Int) = (p'.length : Int) := by rw [w64 (by omega) (by simp; omega)]; simp
      have er : rd l (p'.length : Int) = y := by rw [h']; exact rd_at p' _ y
      refine Ev.step (f := fun k => serifref18_Class.j1 k l (cls x) (((p' ++ [y]).length : Nat) : Int) true) (fun k => ?_) (Ev.step (f := fun k => if ends (cls y) = true then some 0 else serifref18_Class.l0 k l (cls y) (p'.length : Int)) (fun k => ?_) ?_)
      · simp only [serifref18_Class.l0]
        rw [if_pos h8, decide_eq_true (by rw [List.length_append]; simp only [List.length_cons, List.length_nil]; omega)]
      · simp only [serifref18_Class.j1, if_true]
        rw [ej, if_pos (by omega), if_pos (by omega), er, look_f, Option.bind_some, plain_f, Option.bind_some]
        rfl
      · rw [lastC_app, step_again _ _ _ h8]
        by_cases he : ends (cls y) = true
        · simp only [he, if_true]
          exact Ev.now _
        · simp only [he, if_false]
          exact ih
    · refine Ev.step (f := fun k => serifref18_Class.j1 k l (cls x) (pre.length : Int) false) (fun k => ?_) (Ev.step (f := fun _ => some (cls x)) (fun k => ?_) ?_)
      · simp only [serifref18_Class.l0]
        rw [if_neg h8]
      · simp only [serifref18_Class.j1]
        rw [if_neg (by decide), if_neg h8]
      · have e : (stepC (lastC none pre) x).1 = cls x := by simp [stepC, h8]
        rw [e]
        exact Ev.now _
theorem class_ev (l : List Int) (hl : l.length ≤ 35184372088832) (pre suf : List Int) (x : Int) (h : l = pre ++ x :: suf) : Ev (fun k => serifref18_Class.f k l (pre.length : Int)) (stepC (lastC none pre) x).1 := by
  have hlen : l.length = pre.length + 1 + suf.length := by rw [h]; simp; omega
  refine Ev.congr (fun k => ?_) (class_loop l hl pre.length pre suf x rfl h)
  simp only [serifref18_Class.f]
  rw [if_pos (by omega), if_pos (by omega), h, rd_at pre suf x, look_f, Option.bind_some]
  rfl

def updF : Int → List (Int × Bool) → Int
  | c, [] => c
  | c, x :: l => updF (upd c x.1) l
theorem updF_app : ∀ (A : List (Int × Bool)) (c : Int) (z : Int × Bool), updF c (A ++ [z]) = upd (updF c A) z.1
  | [], _, _ => rfl
  | x :: A, c, z => by simp only [List.cons_append, updF, updF_app A]
set_option maxRecDepth 100000 in
theorem tail_all : ∀ a ∈ cl21, ∀ b ∈ cl21, ∀ c ∈ (-1) :: cl21, ∀ j ∈ [false, true], serifref18_Behind.j5 12 a b c j = some (btwT a b c j) := by decide +kernel
theorem mono_j5 (a b c : Int) (j : Bool) (k : Nat) : LeO (serifref18_Behind.j5 k a b c j) (serifref18_Behind.j5 (k + 1) a b c j) := (serifref18_Behind.mono_l k).2.2.2.2.2.1 a b c j
theorem tail_ev {a b c : Int} {j : Bool} (ha : Cl a) (hb : Cl b) (hc : Cl c ∨ c = -1) : Ev (fun k => serifref18_Behind.j5 k a b c j) (btwT a b c j) := by
  refine Ev.of (fun k => mono_j5 a b c j k) (tail_all a (cl_mem ha) b (cl_mem hb) c ?_ j (by cases j <;> simp))
  rcases hc with h | rfl
  · exact List.mem_cons_of_mem _ (cl_mem h)
  · exact List.mem_cons_self
theorem j4_ev (l : List Int) (i : Nat) (y a b c : Int) (f : Bool) (ha : Cl a) (hb : Cl b) (hc : Cl c ∨ c = -1) (hi : i + 1 < l.length) (hl : l.length ≤ 35184372088832) (hy : rd l ((i + 1 : Nat) : Int) = y) :
    Ev (fun k => serifref18_Behind.j4 k l (i : Int) a b c f) (if f = true then 0 else if c = 5 then 1 else btwT a b c (cls y == 8 && !ends a)) := by
  have e1 : wrap64 ((i : Int) + 1) = ((i + 1 : Nat) : Int) := by rw [w64 (by omega) (by omega)]; omega
  cases f with
  | true => exact Ev.step (f := fun _ => some 0) (fun k => by simp only [serifref18_Behind.j4, if_true]) (Ev.now _)
  | false =>
    rw [if_neg (by decide)]
    by_cases h5 : c = 5
    · rw [if_pos h5]
      exact Ev.step (f := fun _ => some 1) (fun k => by simp only [serifref18_Behind.j4]; rw [if_neg (by decide), if_pos h5]) (Ev.now _)
    · rw [if_neg h5]
      refine Ev.step (fun k => ?_) (tail_ev ha hb hc)
      simp only [serifref18_Behind.j4]
      rw [if_neg (by decide), if_neg h5, e1, if_pos (by omega), if_pos (by omega), hy, look_f, Option.bind_some]
      by_cases h8 : cls y = 8
      · have h8' : (lookT y).2.2 = 8 := h8
        have e8 : (cls y == 8) = true := by rw [beq_iff_eq]; exact h8
        rw [if_pos h8', plain_f, Option.bind_some, e8, Bool.true_and]
      · have h8' : ¬ (lookT y).2.2 = 8 := h8
        have e8 : (cls y == 8) = false := by rw [beq_eq_false_iff_ne]; exact h8
        rw [if_neg h8', e8, Bool.false_and]
theorem j1_ev (l : List Int) (i : Nat) (y a b c jj : Int) (ha : Cl a) (hb : Cl b) (hc : Cl c ∨ c = -1) (hi : i + 1 < l.length) (hl : l.length ≤ 35184372088832) (hy : rd l ((i + 1 : Nat) : Int) = y) :
    Ev (fun k => serifref18_Behind.j1 k l (i : Int) a b c jj false) (btw a b c (cls y == 8 && !ends a)) := by
  have h4 := fun f => j4_ev l i y a b c f ha hb hc hi hl hy
  unfold btw
  by_cases a1 : a = 1
  · rw [if_pos (Or.inl a1)]
    refine Ev.step (f := fun k => serifref18_Behind.j2 k l (i : Int) a b c true) (fun k => ?_) (Ev.step (f := fun _ => some 2) (fun k => ?_) (Ev.now _))
    · simp only [serifref18_Behind.j1]
      rw [if_neg (by decide), if_pos a1]
    · simp only [serifref18_Behind.j2, if_true]
  · refine Ev.step (f := fun k => serifref18_Behind.j2 k l (i : Int) a b c (a == 3)) (fun k => ?_) ?_
    · simp only [serifref18_Behind.j1]
      rw [if_neg (by decide), if_neg a1]
    · by_cases a3 : a = 3
      · rw [if_pos (Or.inr a3)]
        refine Ev.step (f := fun _ => some 2) (fun k => ?_) (Ev.now _)
        simp only [serifref18_Behind.j2]
        rw [if_pos (by rw [beq_iff_eq]; exact a3)]
      · rw [if_neg (by omega)]
        have n3 : ¬ (a == 3) = true := by rw [beq_iff_eq]; exact a3
        by_cases a2 : a = 2
        · refine Ev.step (f := fun k => serifref18_Behind.j3 k l (i : Int) a b c (b == 3)) (fun k => ?_) ?_
          · simp only [serifref18_Behind.j2]
            rw [if_neg n3, if_pos a2]
          · by_cases b3 : b = 3
            · rw [if_pos ⟨a2, b3⟩]
              refine Ev.step (f := fun _ => some 0) (fun k => ?_) (Ev.now _)
              simp only [serifref18_Behind.j3]
              rw [if_pos (by rw [beq_iff_eq]; exact b3)]
            · rw [if_neg (fun h => b3 h.2), if_pos a2]
              refine Ev.step (f := fun _ => some 2) (fun k => ?_) (Ev.now _)
              simp only [serifref18_Behind.j3]
              rw [if_neg (by rw [beq_iff_eq]; exact b3), if_pos a2]
        · rw [if_neg (fun h => a2 h.1), if_neg a2]
          refine Ev.step (f := fun k => serifref18_Behind.j3 k l (i : Int) a b c false) (fun k => ?_) ?_
          · simp only [serifref18_Behind.j2]
            rw [if_neg n3, if_neg a2]
          · by_cases hb1 : b = 1
            · rw [if_pos (by omega)]
              refine Ev.step (fun k => ?_) (by have := h4 true; rwa [if_pos rfl] at this)
              simp only [serifref18_Behind.j3]
              rw [if_neg (by decide), if_neg a2, if_pos hb1]
            · by_cases hb2 : b = 2
              · rw [if_pos (by omega)]
                refine Ev.step (fun k => ?_) (by have := h4 true; rwa [if_pos rfl] at this)
                simp only [serifref18_Behind.j3]
                rw [if_neg (by decide), if_neg a2, if_neg hb1, if_pos hb2]
              · by_cases hb3 : b = 3
                · rw [if_pos (by omega)]
                  refine Ev.step (fun k => ?_) (by have := h4 true; rwa [if_pos rfl] at this)
                  simp only [serifref18_Behind.j3]
                  rw [if_neg (by decide), if_neg a2, if_neg hb1, if_neg hb2, if_pos hb3]
                · by_cases hb4 : b = 4
                  · rw [if_pos (by omega)]
                    refine Ev.step (fun k => ?_) (by have := h4 true; rwa [if_pos rfl] at this)
                    simp only [serifref18_Behind.j3]
                    rw [if_neg (by decide), if_neg a2, if_neg hb1, if_neg hb2, if_neg hb3, if_pos hb4]
                  · refine Ev.step (f := fun k => serifref18_Behind.j4 k l (i : Int) a b c (b == 5)) (fun k => ?_) ?_
                    · simp only [serifref18_Behind.j3]
                      rw [if_neg (by decide), if_neg a2, if_neg hb1, if_neg hb2, if_neg hb3, if_neg hb4]
                    · by_cases hb5 : b = 5
                      · rw [if_pos (by omega), show (b == 5) = true by rw [beq_iff_eq]; exact hb5]
                        have := h4 true
                        rwa [if_pos rfl] at this
                      · rw [if_neg (by omega), show (b == 5) = false by rw [beq_eq_false_iff_ne]; exact hb5]
                        have := h4 false
                        rwa [if_neg (by decide)] at this
theorem updF_cl (A : List (Int × Bool)) (c : Int) (d : Int) (hc : Cl c ∨ c = d) (hA : ∀ z ∈ A, Cl z.1) : Cl (updF c A) ∨ updF c A = d := by
  induction A generalizing c with
  | nil => exact hc
  | cons z A ih =>
    refine ih (upd c z.1) ?_ (fun q hq => hA q (List.mem_cons_of_mem _ hq))
    unfold upd
    split
    · exact hc
    · exact Or.inl (hA z List.mem_cons_self)
theorem c_loop (l : List Int) (i : Nat) (y a b : Int) (ha : Cl a) (hb : Cl b) (hi : i + 1 < l.length) (hl : l.length ≤ 35184372088832) (hy : rd l ((i + 1 : Nat) : Int) = y) :
    ∀ (n : Nat) (pre suf : List Int), pre.length = n → l = pre ++ suf → Ev (fun k => serifref18_Behind.l0 k l (i : Int) a b (-1) ((pre.length : Int) - 1)) (btw a b (updF (-1) (clsL none pre)) (cls y == 8 && !ends a))
  | 0, pre, suf, hn, h => by
    obtain rfl := List.eq_nil_of_length_eq_zero hn
    refine Ev.step (fun k => ?_) (j1_ev l i y a b (-1) (-1) ha hb (Or.inr rfl) hi hl hy)
    simp only [serifref18_Behind.l0]
    rw [if_neg (by decide)]
    rfl
  | n + 1, pre, suf, hn, h => by
    obtain ⟨p', x, rfl⟩ : ∃ p' y, pre = p' ++ [y] := ⟨pre.dropLast, pre.getLast (by intro e; rw [e] at hn; cases hn), (List.dropLast_concat_getLast _).symm⟩
    have hp : p'.length = n := by simpa using hn
    have h' : l = p' ++ x :: suf := by rw [h]; simp
    have hlen : l.length = p'.length + 1 + suf.length := by rw [h']; simp; omega
    have ih := c_loop l i y a b ha hb hi hl hy n p' (x :: suf) hp h'
    have ej : (((p' ++ [x]).length : Nat) : Int) - 1 = (p'.length : Int) := by simp
    have ew : wrap64 ((p'.length : Int) - 1) = (p'.length : Int) - 1 := w64 (by omega) (by omega)
    have hcl : Cl (stepC (lastC none p') x).1 := by
      have := clsL_cl (p' ++ [x]) none (fun _ h => by cases h) (stepC (lastC none p') x) (by rw [clsL_append]; simp [clsL])
      exact this
    have hcev := class_ev l hl p' suf x h'
    have eu : updF (-1) (clsL none (p' ++ [x])) = upd (updF (-1) (clsL none p')) (stepC (lastC none p') x).1 := by
      rw [clsL_append]
      exact updF_app _ _ _
    rw [eu, ej]
    generalize (stepC (lastC none p') x).1 = q at *
    refine Ev.step (f := fun k => serifref18_Behind.j1 k l (i : Int) a b (-1) (p'.length : Int) true) (fun k => ?_) (Ev.step (f := fun k => (serifref18_Class.f k l (p'.length : Int)).bind fun t => if t = 4 then serifref18_Behind.l0 k l (i : Int) a b (-1) ((p'.length : Int) - 1) else (serifref18_Class.f k l (p'.length : Int)).bind fun t300 => serifref18_Behind.l0 k l (i : Int) a b t300 ((p'.length : Int) - 1)) (fun k => ?_) (Ev.bind hcev ?_))
    · simp only [serifref18_Behind.l0]
      rw [if_pos (by omega)]
      rfl
    · simp only [serifref18_Behind.j1, if_true, ew]
    · by_cases h4 : q = 4
      · simp only [h4, if_true]
        have : upd (updF (-1) (clsL none p')) 4 = updF (-1) (clsL none p') := by simp [upd]
        rw [this]
        exact ih
      · simp only [h4, if_false]
        have : upd (updF (-1) (clsL none p')) q = q := by simp [upd, h4]
        rw [this]
        refine Ev.bind hcev ?_
        refine Ev.step (fun k => ?_) (j1_ev l i y a b q ((p'.length : Int) - 1) ha hb (Or.inl hcl) hi hl hy)
        simp only [serifref18_Behind.l0]
        by_cases hp0 : (p'.length : Int) - 1 ≥ 0
        · rw [if_pos hp0, decide_eq_false (by have := hcl.1; omega)]
        · rw [if_neg hp0]
theorem btw_none (a b : Int) (j : Bool) : btw a b (-1) j = btw a b 31 j := by
  simp [btw, btwT]
theorem updF_none (A : List (Int × Bool)) : updF (-1) A = updF 31 A ∨ (updF (-1) A = -1 ∧ updF 31 A = 31) := by
  suffices h : ∀ (A : List (Int × Bool)) (c d : Int), (c = d ∨ (c = -1 ∧ d = 31)) → (updF c A = updF d A ∨ (updF c A = -1 ∧ updF d A = 31)) from h A _ _ (Or.inr ⟨rfl, rfl⟩)
  intro A
  induction A with
  | nil => exact fun c d h => h
  | cons z A ih =>
    intro c d h
    refine ih _ _ ?_
    unfold upd
    split
    · exact h
    · exact Or.inl rfl
theorem behind_last (l : List Int) (pre : List Int) (x : Int) (hl : l.length ≤ 35184372088832) (h : l = pre ++ [x]) : Ev (fun k => serifref18_Behind.f k l (pre.length : Int)) 2 := by
  have hlen : l.length = pre.length + 1 := by rw [h]; simp
  refine Ev.congr (f := fun _ => some 2) (fun k => ?_) (Ev.now _)
  simp only [serifref18_Behind.f]
  rw [if_pos (by rw [w64 (by omega) (by omega)]; omega)]
theorem step_joined (q y : Int) : (stepC (some q) y).2 = (cls y == 8 && !ends q) := by
  by_cases hy : cls y = 8
  · rw [step_some _ _ hy, hy]
    cases ends q <;> rfl
  · have : (cls y == 8) = false := by rw [beq_eq_false_iff_ne]; exact hy
    rw [this, Bool.false_and]
    unfold stepC
    rw [if_neg hy]
theorem behind_ev (l : List Int) (hl : l.length ≤ 35184372088832) (pre r : List Int) (x y : Int) (h : l = pre ++ x :: y :: r) :
    Ev (fun k => serifref18_Behind.f k l (pre.length : Int)) (btw (stepC (lastC none pre) x).1 (stepC (some (stepC (lastC none pre) x).1) y).1 (upd (updF 31 (clsL none pre)) (stepC (lastC none pre) x).1) (stepC (some (stepC (lastC none pre) x).1) y).2) := by
  have hlen : l.length = pre.length + 2 + r.length := by rw [h]; simp; omega
  have h' : l = (pre ++ [x]) ++ y :: r := by rw [h]; simp
  have e1 : wrap64 ((pre.length : Int) + 1) = (((pre ++ [x]).length : Nat) : Int) := by rw [w64 (by omega) (by omega)]; simp
  have eL : (pre ++ [x]).length = pre.length + 1 := by simp
  have c1 := class_ev l hl pre (y :: r) x h
  have c2 := class_ev l hl (pre ++ [x]) r y h'
  rw [lastC_app] at c2
  have hA : Cl (stepC (lastC none pre) x).1 := clsL_cl (pre ++ [x]) none (fun _ h => by cases h) (stepC (lastC none pre) x) (by rw [clsL_append]; simp [clsL])
  have hB : Cl (stepC (some (stepC (lastC none pre) x).1) y).1 := stepC_cl _ _ (fun q hq => by cases hq; exact hA)
  have hy : rd l ((pre.length + 1 : Nat) : Int) = y := by
    have := rd_at (pre ++ [x]) r y
    rw [← h', eL] at this
    exact this
  have lo := c_loop l pre.length y _ _ hA hB (by omega) hl hy (pre.length + 1) (pre ++ [x]) (y :: r) eL h'
  have ec : clsL none (pre ++ [x]) = clsL none pre ++ [stepC (lastC none pre) x] := by rw [clsL_append]; rfl
  rw [step_joined]
  have hval : btw (stepC (lastC none pre) x).1 (stepC (some (stepC (lastC none pre) x).1) y).1 (updF (-1) (clsL none (pre ++ [x]))) (cls y == 8 && !ends (stepC (lastC none pre) x).1)
      = btw (stepC (lastC none pre) x).1 (stepC (some (stepC (lastC none pre) x).1) y).1 (upd (updF 31 (clsL none pre)) (stepC (lastC none pre) x).1) (cls y == 8 && !ends (stepC (lastC none pre) x).1) := by
    rw [← updF_app, ← ec]
    rcases updF_none (clsL none (pre ++ [x])) with e | ⟨e, e'⟩
    · rw [e]
    · rw [e, e', btw_none]
  rw [← hval]
  have ej : (((pre ++ [x]).length : Nat) : Int) - 1 = (pre.length : Int) := by simp
  rw [ej] at lo
  refine Ev.congr (f := fun k => (serifref18_Class.f k l (pre.length : Int)).bind fun t297 => (serifref18_Class.f k l (((pre ++ [x]).length : Nat) : Int)).bind fun t298 => serifref18_Behind.l0 k l (pre.length : Int) t297 t298 (-1) (pre.length : Int)) (fun k => ?_) (Ev.bind c1 (Ev.bind c2 lo))
  simp only [serifref18_Behind.f]
  rw [if_neg (by rw [w64 (by omega) (by omega)]; omega), e1]
theorem refbrk_loop (l : List Int) (hl : l.length ≤ 17592186044416) : ∀ (suf pre o : List Int), l = pre ++ suf → o.length = pre.length →
    Ev (fun k => serifref18_Breaks.l0 k l o (l.length : Int) (pre.length : Int)) (o ++ outL (updF 31 (clsL none pre)) (clsL (lastC none pre) suf))
  | [], pre, o, h, ho => by
    rw [List.append_nil] at h
    refine Ev.step (f := fun _ => some o) (fun k => ?_) (by simpa [outL, clsL] using Ev.now o)
    simp only [serifref18_Breaks.l0]
    rw [if_neg (by rw [h]; omega)]
  | [x], pre, o, h, ho => by
    have hlen : l.length = pre.length + 1 := by rw [h]; simp
    have e1 : wrap64 ((pre.length : Int) + 1) = (((pre ++ [x]).length : Nat) : Int) := by rw [w64 (by omega) (by omega)]; simp
    have ih := refbrk_loop l hl [] (pre ++ [x]) (o ++ [2]) (by rw [h]; simp) (by simp [ho])
    have eo : o ++ outL (updF 31 (clsL none pre)) (clsL (lastC none pre) [x]) = (o ++ [2]) ++ outL (updF 31 (clsL none (pre ++ [x]))) (clsL (lastC none (pre ++ [x])) []) := by simp [outL, clsL]
    rw [eo]
    refine Ev.step (f := fun k => (serifref18_Behind.f k l (pre.length : Int)).bind fun t => serifref18_Breaks.l0 k l (o ++ [t]) (l.length : Int) (((pre ++ [x]).length : Nat) : Int)) (fun k => ?_) (Ev.bind (behind_last l pre x (by omega) h) ih)
    simp only [serifref18_Breaks.l0]
    rw [if_pos (by omega), e1]
    simp only [show o.length < 17592186044416 from by omega, if_true]
  | x :: y :: r, pre, o, h, ho => by
    have hlen : l.length = pre.length + 2 + r.length := by rw [h]; simp; omega
    have e1 : wrap64 ((pre.length : Int) + 1) = (((pre ++ [x]).length : Nat) : Int) := by rw [w64 (by omega) (by omega)]; simp
    have hb := behind_ev l (by omega) pre r x y h
    have ih := refbrk_loop l hl (y :: r) (pre ++ [x]) (o ++ [btw (stepC (lastC none pre) x).1 (stepC (some (stepC (lastC none pre) x).1) y).1 (upd (updF 31 (clsL none pre)) (stepC (lastC none pre) x).1) (stepC (some (stepC (lastC none pre) x).1) y).2]) (by rw [h]; simp) (by simp [ho])
    have ec : clsL none (pre ++ [x]) = clsL none pre ++ [stepC (lastC none pre) x] := by rw [clsL_append]; rfl
    rw [ec, updF_app, lastC_app] at ih
    have eo : ∀ v, v = btw (stepC (lastC none pre) x).1 (stepC (some (stepC (lastC none pre) x).1) y).1 (upd (updF 31 (clsL none pre)) (stepC (lastC none pre) x).1) (stepC (some (stepC (lastC none pre) x).1) y).2 → o ++ outL (updF 31 (clsL none pre)) (clsL (lastC none pre) (x :: y :: r)) = (o ++ [v]) ++ outL (upd (updF 31 (clsL none pre)) (stepC (lastC none pre) x).1) (clsL (some (stepC (lastC none pre) x).1) (y :: r)) := by
      rintro v rfl
      simp [outL, clsL]
    rw [eo _ rfl]
    refine Ev.step (f := fun k => (serifref18_Behind.f k l (pre.length : Int)).bind fun t => serifref18_Breaks.l0 k l (o ++ [t]) (l.length : Int) (((pre ++ [x]).length : Nat) : Int)) (fun k => ?_) (Ev.bind hb ih)
    simp only [serifref18_Breaks.l0]
    rw [if_pos (by omega), e1]
    simp only [show o.length < 17592186044416 from by omega, if_true]
theorem refbrk_ev (l : List Int) (hl : l.length ≤ 17592186044416) : Ev (fun k => serifref18_Breaks.f k l) (brkL l) := by
  have := refbrk_loop l hl l [] [] rfl rfl
  exact this
theorem rules (l0 : List Int) (hb : l0.length * 8 ≤ 140737488351232) : Ev (fun k => seriflaw18_BreaksRules.f k l0) true := by
  refine Ev.bind alive_ev ?_
  refine Ev.congr (f := fun k => (breaks_Breaks.f k l0).bind fun t321 => (serifref18_Breaks.f k l0).bind fun t324 => (serifref02_SameInts.f k t321 t324).bind fun t327 => if t327 = true then (serifref02_SameInts.f k l0 l0).bind fun t328 => some t328 else some false) (fun k => ?_) ?_
  · simp only [if_true, Option.bind_some, List.nil_append, List.length_nil, Nat.zero_add]
    rw [if_pos (by omega)]
  · refine Ev.bind (brk_ev _ (by omega)) (Ev.bind (refbrk_ev _ (by omega)) (Ev.bind (same_true _ (by rw [brkL_len]; omega)) ?_))
    simp only [if_true]
    exact Ev.bind (f := fun _ t => some t) (same_true _ (by omega)) (Ev.now _)
end Go.Proofs.Ytplnaannfnhhgab.B
