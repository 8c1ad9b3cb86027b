import Derived.Test.YtplnaannfnhhgabPucd
namespace Go.Proofs.Ytplnaannfnhhgab.Pure
open Go.RowKit Go.Proofs.Ytplnaannfnhhgab.P Go.Proofs.Ytplnaannfnhhgab.F Go.Proofs.YtplnaannfnhhgabW.PrintWords Go.Proofs.YtplnaannfnhhgabW.PrintLast

theorem rw64 {x : Int} (h0 : -9223372036854775808 ≤ x) (h1 : x ≤ 9223372036854775807) : wrap64 x = x := by
  unfold wrap64; omega
theorem ranges_loop (a0 : Int) (h0 : -100 ≤ a0) (h1 : a0 ≤ 2097152) : ∀ (d : Nat) (x : Int), x + d = a0 + 100 → a0 ≤ x → Ev (fun k => seriflaw12_UcdRanges.l0 k a0 x) true
  | 0, x, hx, hy => by
    refine Ev.step (f := fun _ => some true) (fun k => ?_) (Ev.now _)
    simp only [seriflaw12_UcdRanges.l0]
    rw [rw64 (by omega) (by omega), if_neg (by omega)]
  | d + 1, x, hx, hy => by
    have e3 : serifref12_Look.f x = some (lookT x) := rfl
    have e4 : ucd_Look.f x = some (lookT x) := rfl
    refine Ev.step (fun k => ?_) (ranges_loop a0 h0 h1 d (x + 1) (by omega) (by omega))
    simp only [seriflaw12_UcdRanges.l0]
    rw [rw64 (by omega) (by omega), if_pos (by omega), e3, e4, Option.bind_some, Option.bind_some, if_neg (by simp), rw64 (by omega) (by omega)]
theorem UcdRanges : seriflaw12_UcdRanges.Pure := by
  intro a0 _
  refine Ev.rounds (g := fun k => seriflaw12_UcdRanges.f k a0) ?_
  by_cases h : a0 < -100
  · refine Ev.congr (f := fun k => seriflaw12_UcdRanges.j0 k a0 true) (fun k => ?_) (Ev.step (f := fun _ => some true) (fun k => by simp only [seriflaw12_UcdRanges.j0, if_true]) (Ev.now _))
    unfold seriflaw12_UcdRanges.f
    rw [alive, Option.bind_some, if_pos rfl, if_pos h]
  · by_cases h2 : a0 > 2097152
    · refine Ev.congr (f := fun k => seriflaw12_UcdRanges.j0 k a0 true) (fun k => ?_) (Ev.step (f := fun _ => some true) (fun k => by simp only [seriflaw12_UcdRanges.j0, if_true]) (Ev.now _))
      unfold seriflaw12_UcdRanges.f
      rw [alive, Option.bind_some, if_pos rfl, if_neg h, decide_eq_true h2]
    · refine Ev.congr (f := fun k => seriflaw12_UcdRanges.j0 k a0 false) (fun k => ?_) (Ev.step (f := fun k => seriflaw12_UcdRanges.l0 k a0 a0) (fun k => ?_) (ranges_loop a0 (by omega) (by omega) 100 a0 (by omega) (by omega)))
      · unfold seriflaw12_UcdRanges.f
        rw [alive, Option.bind_some, if_pos rfl, if_neg h, decide_eq_false h2]
      · simp only [seriflaw12_UcdRanges.j0]
        rw [if_neg (by decide)]

end Go.Proofs.Ytplnaannfnhhgab.Pure
