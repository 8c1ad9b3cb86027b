import Derived.Test.YtplnaannfnhhgabMx5
import Derived.Test.YtplnaannfnhhgabBrkM
namespace Go.Proofs.Ytplnaannfnhhgab.Pure
open Go.RowKit Go.Proofs.Ytplnaannfnhhgab.M Go.Proofs.Ytplnaannfnhhgab.F Go.Proofs.Ytplnaannfnhhgab.B Go.Proofs.YtplnaannfnhhgabW.PrintWords Go.Proofs.YtplnaannfnhhgabW.PrintLast
set_option linter.unusedVariables false

def endB : List Int → Bool
  | [] => false
  | [_] => true
  | x :: y :: _ => cls x == 1 || cls x == 3 || (cls x == 2 && !(cls y == 3))
def endsL : List Int → List Bool
  | [] => []
  | x :: r => endB (x :: r) :: endsL r
theorem endsL_len : ∀ l : List Int, (endsL l).length = l.length
  | [] => rfl
  | x :: r => by rw [endsL, List.length_cons, List.length_cons, endsL_len r]
theorem btwT_two (a b c : Int) (j : Bool) : (btwT a b c j == 2) = false := by
  unfold btwT
  repeat' split
  all_goals decide
theorem step_small (p : Option Int) (x n : Int) (hn : n = 1 ∨ n = 2 ∨ n = 3) : ((stepC p x).1 == n) = (cls x == n) := by
  by_cases h8 : cls x = 8
  · have h := step_ends p x h8
    have e1 : (cls x == n) = false := by rw [beq_eq_false_iff_ne]; omega
    rw [e1, beq_eq_false_iff_ne]
    intro e
    rw [e] at h
    rcases hn with rfl | rfl | rfl <;> cases h
  · have e : stepC p x = (cls x, false) := by
      unfold stepC
      rw [if_neg h8]
    rw [e]
theorem btw_two (p : Option Int) (x y c : Int) (q : Option Int) (j : Bool) : (btw (stepC p x).1 (stepC q y).1 c j == 2) = (cls x == 1 || cls x == 3 || (cls x == 2 && !(cls y == 3))) := by
  rw [← step_small p x 1 (by omega), ← step_small p x 3 (by omega), ← step_small p x 2 (by omega), ← step_small q y 3 (by omega)]
  generalize (stepC p x).1 = a
  generalize (stepC q y).1 = b
  unfold btw
  by_cases a1 : a = 1
  · simp [a1]
  · by_cases a3 : a = 3
    · simp [a3]
    · rw [if_neg (by omega)]
      have e1 : (a == 1) = false := by rw [beq_eq_false_iff_ne]; exact a1
      have e3 : (a == 3) = false := by rw [beq_eq_false_iff_ne]; exact a3
      rw [e1, e3]
      by_cases a2 : a = 2
      · by_cases b3 : b = 3
        · rw [if_pos ⟨a2, b3⟩, a2, b3]
          decide
        · rw [if_neg (fun h => b3 h.2), if_pos a2]
          have eb : (b == 3) = false := by rw [beq_eq_false_iff_ne]; exact b3
          rw [eb, a2]
          decide
      · have e2 : (a == 2) = false := by rw [beq_eq_false_iff_ne]; exact a2
        rw [if_neg (fun h => a2 h.1), if_neg a2, e2]
        have er : (false || false || (false && !(b == 3))) = false := by simp
        rw [er]
        split
        · decide
        · split
          · decide
          · exact btwT_two _ _ _ _
theorem brk_ends : ∀ (l : List Int) (p : Option Int) (c : Int), (outL c (clsL p l)).map (fun v => v == 2) = endsL l
  | [], _, _ => rfl
  | [x], _, _ => rfl
  | x :: y :: r, p, c => by
    have ih := brk_ends (y :: r) (some (stepC p x).1) (upd c (stepC p x).1)
    simp only [clsL, outL, List.map_cons, endsL] at ih ⊢
    rw [ih, btw_two]
    rfl
def paraL : Int → Nat → List Int → List S53
  | _, _, [] => []
  | f, i, x :: r => if endB (x :: r) = true then (⟨f, ((i + 1 : Nat) : Int)⟩ : S53) :: paraL ((i + 1 : Nat) : Int) (i + 1) r else paraL f (i + 1) r
theorem para_loop (l : List Int) (hl : l.length ≤ 1048576) : ∀ (suf pre : List Int) (o : List S53) (f : Int), l = pre ++ suf → o.length ≤ pre.length →
    Ev (fun k => runs_Paragraphs.l0 k l o f l (l.length : Int) (pre.length : Int)) (o ++ paraL f pre.length suf)
  | [], pre, o, f, h, ho => by
    have hlen : l.length = pre.length := by rw [h]; simp
    refine Ev.step (f := fun _ => some o) (fun k => ?_) (by simpa [paraL] using Ev.now o)
    simp only [runs_Paragraphs.l0]
    rw [if_neg (by omega)]
  | x :: suf, pre, o, f, h, ho => by
    have hlen : l.length = pre.length + 1 + suf.length := by rw [h]; simp; omega
    have eL : (pre ++ [x]).length = pre.length + 1 := by simp
    have e1 : wrap64 ((pre.length : Int) + 1) = ((pre.length + 1 : Nat) : Int) := by rw [w64 (by omega) (by omega)]; omega
    have er : rd l (pre.length : Int) = x := by rw [h]; exact rd_at pre suf x
    have ihT := para_loop l hl suf (pre ++ [x]) (o ++ [(⟨f, ((pre.length + 1 : Nat) : Int)⟩ : S53)]) ((pre.length + 1 : Nat) : Int) (by rw [h]; simp) (by simp; omega)
    have ihF := para_loop l hl suf (pre ++ [x]) o f (by rw [h]; simp) (by simp; omega)
    rw [eL] at ihT ihF
    have eT : endB (x :: suf) = true → o ++ paraL f pre.length (x :: suf) = (o ++ [(⟨f, ((pre.length + 1 : Nat) : Int)⟩ : S53)]) ++ paraL ((pre.length + 1 : Nat) : Int) (pre.length + 1) suf := fun hb => by simp [paraL, hb]
    have eF : endB (x :: suf) = false → o ++ paraL f pre.length (x :: suf) = o ++ paraL f (pre.length + 1) suf := fun hb => by simp [paraL, hb]
    have hol : o.length < 8796093022208 := by omega
    have last : (((pre.length + 1 : Nat) : Int) == (l.length : Int)) = (suf == []) := by
      cases suf with
      | nil => simp only [List.length_nil] at hlen; rw [beq_iff_eq.2 (by omega)]; rfl
      | cons y r => simp only [List.length_cons] at hlen; rw [beq_eq_false_iff_ne.2 (by omega)]; rfl
    have ENTER : Ev (fun k => runs_Paragraphs.j1 k l o f (pre.length : Int) (suf == []) l (l.length : Int) (pre.length : Int) (cls x) (cls x == 1 || cls x == 3)) (o ++ paraL f pre.length (x :: suf)) := by
      by_cases h13 : (cls x == 1 || cls x == 3) = true
      · have hb : endB (x :: suf) = true := by cases suf with
          | nil => rfl
          | cons y r => simp only [endB, h13, Bool.true_or]
        rw [eT hb]
        refine Ev.step (fun k => ?_) ihT
        simp only [runs_Paragraphs.j1, h13, if_true]
        rw [if_pos hol, e1]
      · have h13' : (cls x == 1 || cls x == 3) = false := by simpa using h13
        cases suf with
        | nil =>
          rw [eT rfl]
          refine Ev.step (fun k => ?_) ihT
          simp only [runs_Paragraphs.j1, h13']
          by_cases h2 : cls x = 2
          · rw [if_neg (by decide), if_pos h2, if_pos (by decide), if_pos hol, e1]
          · rw [if_neg (by decide), if_neg h2, if_pos (by decide), if_pos hol, e1]
        | cons y r =>
          have ey : rd l ((pre.length + 1 : Nat) : Int) = y := by
            have := rd_at (pre ++ [x]) r y
            rw [eL] at this
            rw [h]
            simpa using this
          have e0 : ((y :: r : List Int) == []) = false := rfl
          by_cases h2 : cls x = 2
          · by_cases hy : cls y = 3
            · have hb : endB (x :: y :: r) = false := by simp [endB, h2, hy]
              have hy' : (lookT y).2.2 = 3 := hy
              rw [eF hb]
              refine Ev.step (fun k => ?_) ihF
              simp only [runs_Paragraphs.j1, h13', e0]
              rw [if_neg (by decide), if_pos h2, if_neg (by decide), e1, if_pos (by omega), if_pos (by simp only [List.length_cons] at hlen; omega), ey, show ucd_Look.f y = some (lookT y) from rfl, Option.bind_some, if_pos hy']
            · have hb : endB (x :: y :: r) = true := by simp [endB, h2, hy]
              have hy' : ¬ (lookT y).2.2 = 3 := hy
              rw [eT hb]
              refine Ev.step (fun k => ?_) ihT
              simp only [runs_Paragraphs.j1, h13', e0]
              rw [if_neg (by decide), if_pos h2, if_neg (by decide), e1, if_pos (by omega), if_pos (by simp only [List.length_cons] at hlen; omega), ey, show ucd_Look.f y = some (lookT y) from rfl, Option.bind_some, if_neg hy', if_pos hol]
          · have hb : endB (x :: y :: r) = false := by simp only [endB, h13', Bool.false_or]; simp [h2]
            rw [eF hb]
            refine Ev.step (fun k => ?_) ihF
            simp only [runs_Paragraphs.j1, h13', e0]
            rw [if_neg (by decide), if_neg h2, if_neg (by decide), e1]
    refine Ev.step (fun k => ?_) ENTER
    simp only [runs_Paragraphs.l0]
    rw [if_pos (by omega), if_pos (by omega), if_pos (by omega), er, show ucd_Look.f x = some (lookT x) from rfl, Option.bind_some, e1, last]
    change (if cls x = 1 then runs_Paragraphs.j1 k l o f (pre.length : Int) (suf == []) l (l.length : Int) (pre.length : Int) (cls x) (cls x == 1) else runs_Paragraphs.j1 k l o f (pre.length : Int) (suf == []) l (l.length : Int) (pre.length : Int) (cls x) (cls x == 3)) = _
    by_cases c1 : cls x = 1
    · have e : (cls x == 1) = true := by rw [beq_iff_eq]; exact c1
      rw [if_pos c1, e, Bool.true_or]
    · have e : (cls x == 1) = false := by rw [beq_eq_false_iff_ne]; exact c1
      rw [if_neg c1, e, Bool.false_or]
theorem must_l1 (b : List Int) (e : List Bool) (he : b.map (fun v => v == 2) = e) (hl : b.length ≤ 1048576) : ∀ (d i : Nat), i + d = b.length → Ev (fun k => seriflaw18_BreaksMust.l1 k b e (b.length : Int) (i : Int)) true
  | 0, i, h => by
    refine Ev.step (f := fun _ => some true) (fun k => ?_) (Ev.now _)
    simp only [seriflaw18_BreaksMust.l1]
    rw [if_neg (by omega)]
  | d + 1, i, h => by
    have ih := must_l1 b e he hl d (i + 1) (by omega)
    have hel : e.length = b.length := by rw [← he, List.length_map]
    have hi : i < b.length := by omega
    have e1 : wrap64 ((i : Int) + 1) = ((i + 1 : Nat) : Int) := by rw [w64 (by omega) (by omega)]; omega
    have r1 : rd b (i : Int) = b[i] := by simp [rd, hi]
    have r2 : rdOf false e (i : Int) = (b[i] == 2) := by
      subst he
      simp [rdOf, hi]
    refine Ev.step (fun k => ?_) ih
    simp only [seriflaw18_BreaksMust.l1]
    rw [if_pos (by omega), if_pos (by omega), if_pos (by omega), if_pos (by omega), r1, r2, if_neg (by simp), e1]
theorem must_l0 (l : List Int) (hl : l.length ≤ 1048576) (B : List Int) (E : List Bool) (hB : B.map (fun v => v == 2) = E) (hbl : B.length = l.length) (PS : List S53) (hE : E = endsL l) :
    ∀ (suf pre : List Int) (done : List S53) (f : Int), l = pre ++ suf → PS = done ++ paraL f pre.length suf → ∀ (A : List Bool), A.length = pre.length → E = A ++ endsL suf → done.length ≤ pre.length →
      Ev (fun k => seriflaw18_BreaksMust.l0 k l B (A ++ List.replicate suf.length false) PS (PS.length : Int) (done.length : Int)) true
  | [], pre, done, f, h, hP, A, hA, hEA, hd => by
    have hpd : PS = done := by rw [hP]; simp [paraL]
    have hEA' : E = A := by rw [hEA]; simp [endsL]
    refine Ev.step (fun k => ?_) (must_l1 B E hB (by omega) B.length 0 (by omega))
    simp only [seriflaw18_BreaksMust.l0]
    rw [if_neg (by rw [hpd]; omega), hEA']
    simp
  | x :: suf, pre, done, f, h, hP, A, hA, hEA, hd => by
    have hlen : l.length = pre.length + 1 + suf.length := by rw [h]; simp; omega
    have eL : (pre ++ [x]).length = pre.length + 1 := by simp
    by_cases hb : endB (x :: suf) = true
    · have hP' : PS = (done ++ [(⟨f, ((pre.length + 1 : Nat) : Int)⟩ : S53)]) ++ paraL ((pre.length + 1 : Nat) : Int) (pre ++ [x]).length suf := by rw [hP, eL]; simp [paraL, hb]
      have ih := must_l0 l hl B E hB hbl PS hE suf (pre ++ [x]) (done ++ [(⟨f, ((pre.length + 1 : Nat) : Int)⟩ : S53)]) ((pre.length + 1 : Nat) : Int) (by rw [h]; simp) hP' (A ++ [true]) (by simp [hA]) (by rw [hEA]; simp [endsL, hb]) (by simp; omega)
      have hPl : PS.length = done.length + 1 + (paraL ((pre.length + 1 : Nat) : Int) (pre ++ [x]).length suf).length := by rw [hP']; simp; omega
      have er : rd_T53 PS (done.length : Int) = (⟨f, ((pre.length + 1 : Nat) : Int)⟩ : S53) := by
        rw [hP', List.append_assoc]
        simp [rd_T53]
      have em : wrap64 (((pre.length + 1 : Nat) : Int) - 1) = (pre.length : Int) := by rw [w64 (by omega) (by omega)]; omega
      have e1 : wrap64 ((done.length : Int) + 1) = (((done ++ [(⟨f, ((pre.length + 1 : Nat) : Int)⟩ : S53)]).length : Nat) : Int) := by rw [w64 (by omega) (by omega)]; simp
      have hs : (A ++ List.replicate (x :: suf).length false).set ((pre.length : Int)).toNat true = (A ++ [true]) ++ List.replicate suf.length false := set_mid _ _ _ _ _ (by omega)
      have hal : ((A ++ List.replicate (x :: suf).length false).length : Int) = l.length := by simp; omega
      refine Ev.step (fun k => ?_) ih
      simp only [seriflaw18_BreaksMust.l0]
      rw [if_pos (by omega), if_pos (by omega), if_pos (by omega), er]
      simp only
      rw [if_neg (by omega), if_neg (by omega), em, if_pos (by omega), hal, if_pos (by omega), hs, e1]
    · have hb' : endB (x :: suf) = false := by simpa using hb
      have hP' : PS = done ++ paraL f (pre ++ [x]).length suf := by rw [hP, eL]; simp [paraL, hb']
      have ih := must_l0 l hl B E hB hbl PS hE suf (pre ++ [x]) done f (by rw [h]; simp) hP' (A ++ [false]) (by simp [hA]) (by rw [hEA]; simp [endsL, hb']) (by simp; omega)
      have hs : A ++ List.replicate (x :: suf).length false = (A ++ [false]) ++ List.replicate suf.length false := by simp [List.replicate_succ]
      rw [hs]
      exact ih
theorem BreaksMust : ∀ (l0 : List Int), (∀ x ∈ l0, (Lit.int .i64 x).wf = true) → l0.length ≤ 1048576 → ∃ k, seriflaw18_BreaksMust.f k l0 = some true := by
  intro l0 _ hb
  refine Ev.rounds (g := fun k => seriflaw18_BreaksMust.f k l0) ?_
  refine Ev.bind alive_ev ?_
  have hbl : (brkL l0).length = l0.length := brkL_len l0
  have hp : Ev (fun k => runs_Paragraphs.f k l0) (paraL 0 0 l0) := para_loop l0 hb l0 [] [] 0 rfl (by simp)
  have hE : (brkL l0).map (fun v => v == 2) = endsL l0 := brk_ends l0 none 31
  have hm := must_l0 l0 hb (brkL l0) (endsL l0) hE hbl (paraL 0 0 l0) rfl l0 [] [] 0 rfl rfl [] rfl rfl (by simp)
  refine Ev.congr (f := fun k => (breaks_Breaks.f k l0).bind fun t239 => if (t239.length : Int) = (l0.length : Int) then (runs_Paragraphs.f k l0).bind fun t251 => seriflaw18_BreaksMust.l0 k l0 t239 (List.replicate l0.length false) t251 (t251.length : Int) 0 else some false) (fun k => ?_) ?_
  · simp only [if_true, Option.bind_some, List.nil_append, List.length_nil, Nat.zero_add]
    rw [if_pos (by omega)]
    simp only [show (0 : Int) ≤ (l0.length : Int) from by omega, show ((l0.length : Nat) : Int).toNat = l0.length from by omega, show l0.length ≤ 281474976710656 from by omega, show l0.length < 17592186044416 from by omega, if_true]
  · refine Ev.bind (brk_ev _ (by omega)) ?_
    refine Ev.congr (f := fun k => (runs_Paragraphs.f k l0).bind fun t251 => seriflaw18_BreaksMust.l0 k l0 (brkL l0) (List.replicate l0.length false) t251 (t251.length : Int) 0) (fun k => ?_) (Ev.bind hp hm)
    rw [if_pos (by omega)]

end Go.Proofs.Ytplnaannfnhhgab.Pure
