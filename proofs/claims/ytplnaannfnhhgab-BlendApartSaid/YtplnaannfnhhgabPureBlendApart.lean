/- Masks that don't meet may be laid in either order. -/
import Derived.Test.YtplnaannfnhhgabEx5
import Derived.Test.YtplnaannfnhhgabOverFact
import Derived.Test.YtplnaannfnhhgabBlend2
namespace Go.Proofs.Ytplnaannfnhhgab.Pure
open Go.RowKit Go.Proofs.Ytplnaannfnhhgab.E Go.Proofs.Ytplnaannfnhhgab.F Go.Proofs.YtplnaannfnhhgabW.PrintWords Go.Proofs.YtplnaannfnhhgabW.PrintLast
set_option linter.unusedVariables false
theorem copy_f (a b : Int) (l : List Int) (hl : l.length < 140737488355328) : serifref22_Copy.f a b l = some (a, b, l) := by
  unfold serifref22_Copy.f
  rw [Option.bind_some, if_pos (by simpa using hl)]
  rfl
theorem fromv_in {x X n : Int} (hX : -5000 ≤ X ∧ X ≤ 5000) (h : ¬ fromv x X 0 n < 0) : X ≤ x ∧ x < X + n := by
  have e : wrap64 (X + 0) = X := by rw [Int.add_zero]; exact w64 (by omega) (by omega)
  unfold fromv at h
  rw [e] at h
  split at h
  · exact absurd (by decide) h
  · rename_i hc
    have h1 : ¬ (X > x) := fun hh => hc (.inr (.inl hh))
    have h2 : ¬ (x - X ≥ n) := fun hh => hc (.inr (.inr (.inr hh)))
    omega
theorem cov_in {X Y MW MH : Int} {ml : List Int} {x y : Int} (hX : -5000 ≤ X ∧ X ≤ 5000) (hY : -5000 ≤ Y ∧ Y ≤ 5000) (h : covOf X Y MW MH ml 0 0 x y ≠ 0) : (X ≤ x ∧ x < X + MW) ∧ (Y ≤ y ∧ y < Y + MH) := by
  unfold covOf at h
  split at h
  · exact absurd rfl h
  · rename_i h1
    split at h
    · exact absurd rfl h
    · rename_i h2
      exact ⟨fromv_in hX h1, fromv_in hY h2⟩
theorem laid_bytes (W X Y MW MH : Int) (ml : List Int) (dx dy ink : Int) (l : List Int) (hqb : ∀ z ∈ l, 0 ≤ z ∧ z ≤ 255) (hm : ∀ z ∈ ml, 0 ≤ z ∧ z ≤ 255) (hi : 0 ≤ ink ∧ ink ≤ 255) : ∀ z ∈ laid W X Y MW MH ml dx dy ink l, 0 ≤ z ∧ z ≤ 255 := fun z hz => by
  unfold laid at hz
  obtain ⟨k, _, rfl⟩ := List.mem_map.1 hz
  exact mixOf_byte (rd_byte hqb _) hi (covOf_byte hm _ _ _ _)
theorem laid_swap {W X1 Y1 w1 h1 X2 Y2 w2 h2 : Int} {ml1 ml2 l : List Int} (b1 : -5000 ≤ X1 ∧ X1 ≤ 5000) (b2 : -5000 ≤ Y1 ∧ Y1 ≤ 5000) (b3 : -5000 ≤ X2 ∧ X2 ≤ 5000) (b4 : -5000 ≤ Y2 ∧ Y2 ≤ 5000)
    (hM : ¬ (X1 < X2 + w2 ∧ X2 < X1 + w1 ∧ Y1 < Y2 + h2 ∧ Y2 < Y1 + h1)) (i j : Int) :
    laid W X2 Y2 w2 h2 ml2 0 0 j (laid W X1 Y1 w1 h1 ml1 0 0 i l) = laid W X1 Y1 w1 h1 ml1 0 0 i (laid W X2 Y2 w2 h2 ml2 0 0 j l) := by
  refine List.ext_getElem (by simp only [laid_length]) fun n g1 g2 => ?_
  have hn : n < l.length := by simpa only [laid_length] using g1
  have t1 := laid_length W X1 Y1 w1 h1 ml1 0 0 i l
  have t2 := laid_length W X2 Y2 w2 h2 ml2 0 0 j l
  rw [← rd_nat _ n g1, ← rd_nat _ n g2, laid_at W X2 Y2 w2 h2 ml2 0 0 j _ n (by rw [t1]; exact hn), laid_at W X1 Y1 w1 h1 ml1 0 0 i l n hn, laid_at W X1 Y1 w1 h1 ml1 0 0 i _ n (by rw [t2]; exact hn), laid_at W X2 Y2 w2 h2 ml2 0 0 j l n hn]
  by_cases c1 : covOf X1 Y1 w1 h1 ml1 0 0 ((n : Int) % W) ((n : Int) / W) = 0
  · rw [c1, mixOf_0, mixOf_0]
  · by_cases c2 : covOf X2 Y2 w2 h2 ml2 0 0 ((n : Int) % W) ((n : Int) / W) = 0
    · rw [c2, mixOf_0, mixOf_0]
    · have h3 := cov_in b1 b2 c1
      have h4 := cov_in b3 b4 c2
      exact absurd ⟨by omega, by omega, by omega, by omega⟩ hM
set_option linter.unusedSectionVars false
section
variable (W H : Int) (l : List Int) (X1 Y1 w1 h1 : Int) (ml1 : List Int) (X2 Y2 w2 h2 : Int) (ml2 : List Int) (hl : l.length ≤ 140737488351232) (hl1 : ml1.length ≤ 140737488351232) (hl2 : ml2.length ≤ 140737488351232)
  (hqb : ∀ z ∈ l, 0 ≤ z ∧ z ≤ 255) (hm1 : ∀ z ∈ ml1, 0 ≤ z ∧ z ≤ 255) (hm2 : ∀ z ∈ ml2, 0 ≤ z ∧ z ≤ 255)
include hl hl1 hl2 hqb hm1 hm2
theorem main_ev (b1 : -5000 ≤ X1 ∧ X1 ≤ 5000) (b2 : -5000 ≤ Y1 ∧ Y1 ≤ 5000) (b3 : -5000 ≤ X2 ∧ X2 ≤ 5000) (b4 : -5000 ≤ Y2 ∧ Y2 ≤ 5000)
    (hM : ¬ (X1 < X2 + w2 ∧ X2 < X1 + w1 ∧ Y1 < Y2 + h2 ∧ Y2 < Y1 + h1)) :
    Ev (fun k => seriflaw22_BlendApart.j1 k false W H l X1 Y1 w1 h1 ml1 X2 Y2 w2 h2 ml2) true := by
  have i9 : (0 : Int) ≤ 9 ∧ (9 : Int) ≤ 255 := by decide
  have i99 : (0 : Int) ≤ 99 ∧ (99 : Int) ≤ 255 := by decide
  have E1 := over_ev W H l X1 Y1 w1 h1 ml1 0 0 9 (by omega) (by omega) hqb hm1 i9
  have E2 := over_ev W H l X2 Y2 w2 h2 ml2 0 0 99 (by omega) (by omega) hqb hm2 i99
  have hc := copy_f W H l (by omega)
  refine Ev.step (f := fun k => (blend_Over.f k W H l X1 Y1 w1 h1 ml1 0 0 9).bind fun bt218 => (blend_Over.f k W H l X2 Y2 w2 h2 ml2 0 0 99).bind fun bt230 =>
    if bt218.2.2.2 = 0 then (seriflaw22_BlendApart.j2 k bt218.2.2.2 bt230.2.2.2 (bt230.2.2.2 != 0) X1 Y1 w1 h1 ml1 X2 Y2 w2 h2 ml2 bt218.1 bt218.2.1 bt218.2.2.1 bt230.1 bt230.2.1 bt230.2.2.1)
    else (seriflaw22_BlendApart.j2 k bt218.2.2.2 bt230.2.2.2 true X1 Y1 w1 h1 ml1 X2 Y2 w2 h2 ml2 bt218.1 bt218.2.1 bt218.2.2.1 bt230.1 bt230.2.1 bt230.2.2.1)) (fun k => ?_) (Ev.bind E1 (Ev.bind E2 ?_))
  · rw [seriflaw22_BlendApart.j1, if_neg (by decide), hc]
    simp only [Option.bind_some]
  · unfold overV
    by_cases o1 : okP W H l.length ∧ okM w1 h1 ml1.length
    · rw [if_pos o1]
      by_cases o2 : okP W H l.length ∧ okM w2 h2 ml2.length
      · rw [if_pos o2]
        have n1 : (laid W X1 Y1 w1 h1 ml1 0 0 9 l).length = l.length := laid_length _ _ _ _ _ _ _ _ _ _
        have n2 : (laid W X2 Y2 w2 h2 ml2 0 0 99 l).length = l.length := laid_length _ _ _ _ _ _ _ _ _ _
        have E3 := over_ev W H (laid W X1 Y1 w1 h1 ml1 0 0 9 l) X2 Y2 w2 h2 ml2 0 0 99 (by rw [n1]; omega) (by omega) (laid_bytes _ _ _ _ _ _ _ _ _ _ hqb hm1 i9) hm2 i99
        have E4 := over_ev W H (laid W X2 Y2 w2 h2 ml2 0 0 99 l) X1 Y1 w1 h1 ml1 0 0 9 (by rw [n2]; omega) (by omega) (laid_bytes _ _ _ _ _ _ _ _ _ _ hqb hm2 i99) hm1 i9
        unfold overV at E3 E4
        rw [n1, if_pos o2] at E3
        rw [n2, if_pos o1] at E4
        have e0 : ((0 : Int) != 0) = false := rfl
        simp only [if_true, e0]
        refine Ev.step (f := fun k => (blend_Over.f k W H (laid W X1 Y1 w1 h1 ml1 0 0 9 l) X2 Y2 w2 h2 ml2 0 0 99).bind fun bt237 => (blend_Over.f k W H (laid W X2 Y2 w2 h2 ml2 0 0 99 l) X1 Y1 w1 h1 ml1 0 0 9).bind fun bt243 =>
          if bt237.2.2.2 = 0 then (if bt243.2.2.2 = 0 then ((serifref22_Same.f bt237.1 bt237.2.1 bt237.2.2.1 bt243.1 bt243.2.1 bt243.2.2.1).bind fun t249 => (some t249)) else (some false)) else (some false)) (fun k => ?_) (Ev.bind E3 (Ev.bind E4 ?_))
        · rw [seriflaw22_BlendApart.j2, if_neg (by decide)]
        · simp only [if_true, laid_swap b1 b2 b3 b4 hM, same_f, Option.bind_some]
          exact Ev.now _
      · rw [if_neg o2]
        refine Ev.step (f := fun _ => some true) (fun k => ?_) (Ev.now _)
        simp only [if_true]
        rw [seriflaw22_BlendApart.j2, if_pos (by decide), if_neg (by decide)]
        rfl
    · rw [if_neg o1]
      refine Ev.step (f := fun _ => some true) (fun k => ?_) (Ev.now _)
      simp only [show ¬ ((225 : Int) = 0) by decide, if_false]
      rw [seriflaw22_BlendApart.j2, if_pos rfl, if_pos rfl]
theorem loop_ev (y : List Int) (hy : y.length < 1000) (T : (∀ z ∈ y, -5000 ≤ z ∧ z ≤ 5000) → Ev (fun k => if X1 < (wrap64 (X2 + w2)) then (if X2 < (wrap64 (X1 + w1)) then (if Y1 < (wrap64 (Y2 + h2)) then (seriflaw22_BlendApart.j1 k (decide (Y2 < (wrap64 (Y1 + h1)))) W H l X1 Y1 w1 h1 ml1 X2 Y2 w2 h2 ml2) else (seriflaw22_BlendApart.j1 k false W H l X1 Y1 w1 h1 ml1 X2 Y2 w2 h2 ml2)) else (seriflaw22_BlendApart.j1 k false W H l X1 Y1 w1 h1 ml1 X2 Y2 w2 h2 ml2)) else (seriflaw22_BlendApart.j1 k false W H l X1 Y1 w1 h1 ml1 X2 Y2 w2 h2 ml2)) true) :
    ∀ (d i : Nat), i + d = y.length → (∀ j, j < i → -5000 ≤ rd y (j : Int) ∧ rd y (j : Int) ≤ 5000) →
    Ev (fun k => seriflaw22_BlendApart.l0 k y (y.length : Int) (i : Int) W H l X1 Y1 w1 h1 ml1 X2 Y2 w2 h2 ml2) true
  | 0, i, hi, hb => by
    refine Ev.step (fun k => ?_) (T fun z hz => ?_)
    · rw [seriflaw22_BlendApart.l0, if_neg (by omega)]
    · obtain ⟨j, hj, rfl⟩ := List.getElem_of_mem hz
      rw [← rd_nat y j hj]
      exact hb j (by omega)
  | d + 1, i, hi, hb => by
    have g0 : (i : Int) < (y.length : Int) := by omega
    have g1 : (0 : Int) ≤ (i : Int) := by omega
    have g2 : wrap64 ((i : Int) + 1) = ((i + 1 : Nat) : Int) := by rw [w64 (by omega) (by omega)]; omega
    by_cases c1 : rd y (i : Int) < -5000
    · refine Ev.step (f := fun _ => some true) (fun k => ?_) (Ev.now _)
      rw [seriflaw22_BlendApart.l0, if_pos g0, if_pos g1, if_pos g0, if_pos c1]
    · by_cases c2 : rd y (i : Int) > 5000
      · refine Ev.step (f := fun _ => some true) (fun k => ?_) (Ev.now _)
        rw [seriflaw22_BlendApart.l0, if_pos g0, if_pos g1, if_pos g0, if_neg c1, if_pos c2]
      · refine Ev.step (fun k => ?_) (loop_ev y hy T d (i + 1) (by omega) (fun j hj => ?_))
        · rw [seriflaw22_BlendApart.l0, if_pos g0, if_pos g1, if_pos g0, if_neg c1, if_neg c2, g2]
        · by_cases hji : j = i
          · subst hji
            omega
          · exact hb j (by omega)
end
theorem BlendApart (W H X1 Y1 w1 h1 X2 Y2 w2 h2 : Int) (l ml1 ml2 : List Int) (hl : l.length ≤ 140737488351232) (hl1 : ml1.length ≤ 140737488351232) (hl2 : ml2.length ≤ 140737488351232)
    (hqb : ∀ z ∈ l, 0 ≤ z ∧ z ≤ 255) (hm1 : ∀ z ∈ ml1, 0 ≤ z ∧ z ≤ 255) (hm2 : ∀ z ∈ ml2, 0 ≤ z ∧ z ≤ 255) :
    ∃ k, seriflaw22_BlendApart.f k W H l X1 Y1 w1 h1 ml1 X2 Y2 w2 h2 ml2 = some true := by
  refine Ev.rounds (g := fun k => seriflaw22_BlendApart.f k W H l X1 Y1 w1 h1 ml1 X2 Y2 w2 h2 ml2) ?_
  unfold seriflaw22_BlendApart.f
  simp only [alive, Option.bind_some, if_true]
  refine loop_ev W H l X1 Y1 w1 h1 ml1 X2 Y2 w2 h2 ml2 hl hl1 hl2 hqb hm1 hm2 [X1, Y1, X2, Y2, w1, h1, w2, h2] (by simp) (fun hz => ?_) 8 0 rfl (fun j hj => absurd hj (by omega))
  have b1 := hz X1 (by simp)
  have b2 := hz Y1 (by simp)
  have b3 := hz X2 (by simp)
  have b4 := hz Y2 (by simp)
  have b5 := hz w1 (by simp)
  have b6 := hz h1 (by simp)
  have b7 := hz w2 (by simp)
  have b8 := hz h2 (by simp)
  have e1 : wrap64 (X2 + w2) = X2 + w2 := w64 (by omega) (by omega)
  have e2 : wrap64 (X1 + w1) = X1 + w1 := w64 (by omega) (by omega)
  have e3 : wrap64 (Y2 + h2) = Y2 + h2 := w64 (by omega) (by omega)
  have e4 : wrap64 (Y1 + h1) = Y1 + h1 := w64 (by omega) (by omega)
  rw [e1, e2, e3, e4]
  clear e1 e2 e3 e4
  have M := main_ev W H l X1 Y1 w1 h1 ml1 X2 Y2 w2 h2 ml2 hl hl1 hl2 hqb hm1 hm2 b1 b2 b3 b4
  by_cases c1 : X1 < X2 + w2
  · simp only [if_pos c1]
    by_cases c2 : X2 < X1 + w1
    · simp only [if_pos c2]
      by_cases c3 : Y1 < Y2 + h2
      · simp only [if_pos c3]
        by_cases c4 : Y2 < Y1 + h1
        · simp only [decide_eq_true c4]
          refine Ev.step (f := fun _ => some true) (fun k => ?_) (Ev.now _)
          rw [seriflaw22_BlendApart.j1, if_pos rfl]
        · simp only [decide_eq_false c4]
          exact M (fun hh => c4 hh.2.2.2)
      · simp only [if_neg c3]
        exact M (fun hh => c3 hh.2.2.1)
    · simp only [if_neg c2]
      exact M (fun hh => c2 hh.2.1)
  · simp only [if_neg c1]
    exact M (fun hh => c1 hh.1)
end Go.Proofs.Ytplnaannfnhhgab.Pure
