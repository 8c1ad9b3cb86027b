/- What lies beside a mask stays, and where a mask is nought; where it is full, the ink lies. -/
import Derived.Test.YtplnaannfnhhgabOx2
import Derived.Test.YtplnaannfnhhgabOverFact
import Derived.Test.YtplnaannfnhhgabBlend2o
namespace Go.Proofs.Ytplnaannfnhhgab.Pure
open Go.RowKit Go.Proofs.Ytplnaannfnhhgab.O Go.Proofs.Ytplnaannfnhhgab.F Go.Proofs.YtplnaannfnhhgabW.PrintWords Go.Proofs.YtplnaannfnhhgabW.PrintLast
set_option linter.unusedVariables false
set_option linter.unusedSectionVars false
theorem copy_f (a b : Int) (l : List Int) (hl : l.length < 140737488355328) : serifref22_Copy.f a b l = some (a, b, l) := by
  unfold serifref22_Copy.f
  rw [Option.bind_some, if_pos (by simpa using hl)]
  rfl
theorem w64n {n : Nat} (h : n ≤ 1048576) : wrap64 (n : Int) = (n : Int) := w64 (by omega) (by omega)
theorem wsucc {n : Nat} (h : n ≤ 1024) : wrap64 ((n : Int) + 1) = ((n + 1 : Nat) : Int) := by unfold wrap64; omega
theorem row_mod (y : Nat) {x W : Nat} (h : x < W) : ((y * W + x : Nat) : Int) % (W : Int) = (x : Int) := by
  rw [← Int.natCast_emod, Nat.add_comm, Nat.add_mul_mod_self_right, Nat.mod_eq_of_lt h]
theorem row_div (y : Nat) {x W : Nat} (h : x < W) : ((y * W + x : Nat) : Int) / (W : Int) = (y : Int) := by
  rw [← Int.natCast_ediv, Nat.add_comm, Nat.add_mul_div_right _ _ (by omega), Nat.div_eq_of_lt h, Nat.zero_add]
theorem fromv_val {x X d n : Int} (hX : -5000 ≤ X ∧ X ≤ 5000) (hd : -5000 ≤ d ∧ d ≤ 5000) (hx : 0 ≤ x ∧ x ≤ 1024) : fromv x X d n = if 0 ≤ x - d - X ∧ x - d - X < n then x - d - X else -1 := by
  have e : wrap64 (X + d) = X + d := w64 (by omega) (by omega)
  have hf : ¬ farOff X d := by
    unfold farOff
    rw [e]
    omega
  unfold fromv
  rw [e]
  clear e
  by_cases c : 0 ≤ x - d - X ∧ x - d - X < n
  · rw [if_pos c, if_neg]
    · omega
    · rintro (hh | hh | hh | hh)
      · exact hf hh
      · omega
      · omega
      · omega
  · rw [if_neg c, if_pos]
    right
    omega
theorem cov_val {X Y MW MH dx dy x y : Int} {ml : List Int} (hX : -5000 ≤ X ∧ X ≤ 5000) (hY : -5000 ≤ Y ∧ Y ≤ 5000) (hdx : -5000 ≤ dx ∧ dx ≤ 5000) (hdy : -5000 ≤ dy ∧ dy ≤ 5000) (hx : 0 ≤ x ∧ x ≤ 1024) (hy : 0 ≤ y ∧ y ≤ 1024) :
    covOf X Y MW MH ml dx dy x y = if (0 ≤ x - dx - X ∧ x - dx - X < MW) ∧ (0 ≤ y - dy - Y ∧ y - dy - Y < MH) then rd ml ((y - dy - Y) * MW + (x - dx - X)) else 0 := by
  unfold covOf
  rw [fromv_val hX hdx hx, fromv_val hY hdy hy]
  generalize x - dx - X = xi
  generalize y - dy - Y = yj
  by_cases c1 : 0 ≤ xi ∧ xi < MW
  · by_cases c2 : 0 ≤ yj ∧ yj < MH
    · simp only [if_pos c1, if_pos c2]
      rw [if_neg (show ¬ xi < 0 by omega), if_neg (show ¬ yj < 0 by omega), if_pos (show (0 ≤ xi ∧ xi < MW) ∧ (0 ≤ yj ∧ yj < MH) from ⟨c1, c2⟩)]
    · simp only [if_pos c1, if_neg c2]
      rw [if_neg (show ¬ xi < 0 by omega), if_pos (show (-1 : Int) < 0 by decide), if_neg (show ¬ ((0 ≤ xi ∧ xi < MW) ∧ (0 ≤ yj ∧ yj < MH)) from fun h => c2 h.2)]
  · simp only [if_neg c1]
    rw [if_pos (show (-1 : Int) < 0 by decide), if_neg (show ¬ ((0 ≤ xi ∧ xi < MW) ∧ (0 ≤ yj ∧ yj < MH)) from fun h => c1 h.1)]
section
variable {Wn Hn : Nat} {X Y MW MH : Int} {ml l : List Int} {dx dy ink : Int} (hW : 1 ≤ Wn ∧ Wn ≤ 1024) (hH : 1 ≤ Hn ∧ Hn ≤ 1024) (hq : l.length = Wn * Hn) (hk : okM MW MH ml.length) (hl : ml.length ≤ 9223372036854775807)
  (hX : -5000 ≤ X ∧ X ≤ 5000) (hY : -5000 ≤ Y ∧ Y ≤ 5000) (hdx : -5000 ≤ dx ∧ dx ≤ 5000) (hdy : -5000 ≤ dy ∧ dy ≤ 5000)
include hW hH hq hk hl hX hY hdx hdy
theorem out_px (x0 y0 : Nat) (hx0 : x0 < Wn) (hy0 : y0 < Hn) (hn : Ev (fun k => seriflaw22_BlendOutside.l1 k (y0 : Int) ((x0 + 1 : Nat) : Int) Wn Hn l X Y MW MH ml dx dy ink Wn Hn (laid Wn X Y MW MH ml dx dy ink l)) true) :
    Ev (fun k => seriflaw22_BlendOutside.l1 k (y0 : Int) (x0 : Int) Wn Hn l X Y MW MH ml dx dy ink Wn Hn (laid Wn X Y MW MH ml dx dy ink l)) true := by
  have g1 : y0 * Wn ≤ (Hn - 1) * Wn := Nat.mul_le_mul_right _ (by omega)
  have g2 : (Hn - 1) * Wn = Wn * Hn - Wn := by rw [Nat.sub_mul, Nat.one_mul, Nat.mul_comm]
  have g3 : Wn * Hn ≤ 1024 * 1024 := Nat.mul_le_mul hW.2 hH.2
  have g4 : Wn ≤ Wn * Hn := Nat.le_mul_of_pos_right _ (by omega)
  have hlt : y0 * Wn + x0 < l.length := by omega
  have b1 : y0 * Wn ≤ 1048576 := by omega
  have b2 : y0 * Wn + x0 ≤ 1048576 := by omega
  have b3 : x0 ≤ 1024 := by omega
  have i0 : (x0 : Int) < (Wn : Int) := by omega
  have i1 : (0 : Int) ≤ ((y0 * Wn + x0 : Nat) : Int) := by omega
  have i2 : ((y0 * Wn + x0 : Nat) : Int) < (l.length : Int) := by omega
  have i3 : 0 ≤ (x0 : Int) ∧ (x0 : Int) ≤ 1024 := by omega
  have i4 : 0 ≤ (y0 : Int) ∧ (y0 : Int) ≤ 1024 := by omega
  have i5 : ((y0 * Wn + x0 : Nat) : Int) < ((laid Wn X Y MW MH ml dx dy ink l).length : Int) := by rw [laid_length]; exact i2
  have hat := laid_at Wn X Y MW MH ml dx dy ink l (y0 * Wn + x0) hlt
  rw [row_mod y0 hx0, row_div y0 hx0, cov_val hX hY hdx hdy i3 i4] at hat
  have wx1 : wrap64 ((x0 : Int) - dx) = (x0 : Int) - dx := w64 (by omega) (by omega)
  have wx2 : wrap64 ((x0 : Int) - dx - X) = (x0 : Int) - dx - X := w64 (by omega) (by omega)
  have WX := And.intro wx1 wx2
  clear wx1 wx2
  have wy1 : wrap64 ((y0 : Int) - dy) = (y0 : Int) - dy := w64 (by omega) (by omega)
  have wy2 : wrap64 ((y0 : Int) - dy - Y) = (y0 : Int) - dy - Y := w64 (by omega) (by omega)
  have IDX : wrap64 (wrap64 ((y0 : Int) * (Wn : Int)) + (x0 : Int)) = ((y0 * Wn + x0 : Nat) : Int) := by rw [← Int.natCast_mul, w64n b1, ← Int.natCast_add, w64n b2]
  have STEP : ∀ k (b : Bool), seriflaw22_BlendOutside.l1 (k + 1) (y0 : Int) (x0 : Int) Wn Hn l X Y MW MH ml dx dy ink Wn Hn (laid Wn X Y MW MH ml dx dy ink l) = seriflaw22_BlendOutside.j3 k (y0 : Int) (x0 : Int) ((x0 : Int) - dx - X) ((y0 : Int) - dy - Y) (decide ((0 ≤ (x0 : Int) - dx - X ∧ (x0 : Int) - dx - X < MW) ∧ (0 ≤ (y0 : Int) - dy - Y ∧ (y0 : Int) - dy - Y < MH))) Wn Hn l X Y MW MH ml dx dy ink Wn Hn (laid Wn X Y MW MH ml dx dy ink l) := fun k b => by
    rw [seriflaw22_BlendOutside.l1, if_pos i0, WX.1, WX.2, wy1, wy2]
    generalize (x0 : Int) - dx - X = xi
    generalize (y0 : Int) - dy - Y = yj
    clear WX wy1 wy2 IDX hat
    by_cases c1 : xi ≥ 0
    · rw [if_pos c1]
      by_cases c2 : yj ≥ 0
      · rw [if_pos c2]
        by_cases c3 : xi < MW
        · rw [if_pos c3]
          congr 1
          exact decide_eq_decide.2 (by omega)
        · rw [if_neg c3]
          congr 1
          exact (decide_eq_false (by omega)).symm
      · rw [if_neg c2]
        congr 1
        exact (decide_eq_false (by omega)).symm
    · rw [if_neg c1]
      congr 1
      exact (decide_eq_false (by omega)).symm
  clear WX wy1 wy2
  generalize (x0 : Int) - dx - X = xi at *
  generalize (y0 : Int) - dy - Y = yj at *
  by_cases c : (0 ≤ xi ∧ xi < MW) ∧ (0 ≤ yj ∧ yj < MH)
  · rw [if_pos c] at hat
    have m0 : 0 ≤ yj * MW := Int.mul_nonneg (by omega) (by omega)
    have m1 : yj * MW ≤ (MH - 1) * MW := Int.mul_le_mul_of_nonneg_right (by omega) (by omega)
    have m2 : (MH - 1) * MW = MW * MH - MW := by rw [Int.sub_mul, Int.one_mul, Int.mul_comm]
    have m3 := hk.2.2
    have n1 : 0 ≤ yj * MW + xi := by omega
    have n2 : yj * MW + xi < (ml.length : Int) := by omega
    have n3 : yj * MW ≤ 9223372036854775807 := by omega
    have MX : wrap64 (wrap64 (yj * MW) + xi) = yj * MW + xi := by rw [w64 (x := yj * MW) (by omega) n3, w64 (by omega) (by omega)]
    refine Ev.step (f := fun k => seriflaw22_BlendOutside.j3 k (y0 : Int) (x0 : Int) xi yj true Wn Hn l X Y MW MH ml dx dy ink Wn Hn (laid Wn X Y MW MH ml dx dy ink l)) (fun k => by rw [STEP k true, decide_eq_true c]) ?_
    refine Ev.step (f := fun k => seriflaw22_BlendOutside.j4 k (y0 : Int) (x0 : Int) xi yj true false Wn Hn l X Y MW MH ml dx dy ink Wn Hn (laid Wn X Y MW MH ml dx dy ink l)) (fun k => ?_) (Ev.step (fun k => ?_) hn)
    · rw [seriflaw22_BlendOutside.j3, if_pos rfl, MX, if_pos n1, if_pos n2]
      by_cases z : rd ml (yj * MW + xi) = 0
      · rw [if_pos z, IDX, if_pos i1, if_pos i5, if_pos i2, hat, z, mixOf_0]
        have e : (rd l ((y0 * Wn + x0 : Nat) : Int) != rd l ((y0 * Wn + x0 : Nat) : Int)) = false := by simp
        rw [e]
      · rw [if_neg z]
    · rw [seriflaw22_BlendOutside.j4, if_neg (by decide), if_pos rfl, MX, if_pos n1, if_pos n2]
      by_cases z : rd ml (yj * MW + xi) = 255
      · rw [if_pos z, IDX, if_pos i1, if_pos i5, hat, z, mixOf_255, if_pos rfl, wsucc b3]
      · rw [if_neg z, wsucc b3]
  · rw [if_neg c, mixOf_0] at hat
    refine Ev.step (f := fun k => seriflaw22_BlendOutside.j3 k (y0 : Int) (x0 : Int) xi yj false Wn Hn l X Y MW MH ml dx dy ink Wn Hn (laid Wn X Y MW MH ml dx dy ink l)) (fun k => by rw [STEP k true, decide_eq_false c]) ?_
    refine Ev.step (f := fun k => seriflaw22_BlendOutside.j4 k (y0 : Int) (x0 : Int) xi yj false false Wn Hn l X Y MW MH ml dx dy ink Wn Hn (laid Wn X Y MW MH ml dx dy ink l)) (fun k => ?_) (Ev.step (fun k => ?_) hn)
    · rw [seriflaw22_BlendOutside.j3, if_neg (by decide), IDX, if_pos i1, if_pos i5, if_pos i2, hat]
      have e : (rd l ((y0 * Wn + x0 : Nat) : Int) != rd l ((y0 * Wn + x0 : Nat) : Int)) = false := by simp
      rw [e]
    · rw [seriflaw22_BlendOutside.j4, if_neg (by decide), if_neg (by decide), wsucc b3]
theorem out_l1 : ∀ (d x0 y0 : Nat), x0 + d = Wn → y0 < Hn →
    Ev (fun k => seriflaw22_BlendOutside.l0 k ((y0 + 1 : Nat) : Int) Wn Hn l X Y MW MH ml dx dy ink Wn Hn (laid Wn X Y MW MH ml dx dy ink l)) true →
    Ev (fun k => seriflaw22_BlendOutside.l1 k (y0 : Int) (x0 : Int) Wn Hn l X Y MW MH ml dx dy ink Wn Hn (laid Wn X Y MW MH ml dx dy ink l)) true
  | 0, x0, y0, hx, hy, hn => by
    refine Ev.step (fun k => ?_) hn
    rw [seriflaw22_BlendOutside.l1, if_neg (by omega), wsucc (by omega)]
  | d + 1, x0, y0, hx, hy, hn => out_px hW hH hq hk hl hX hY hdx hdy x0 y0 (by omega) hy (out_l1 d (x0 + 1) y0 (by omega) hy hn)
theorem out_l0 : ∀ (e y0 : Nat), y0 + e = Hn → Ev (fun k => seriflaw22_BlendOutside.l0 k (y0 : Int) Wn Hn l X Y MW MH ml dx dy ink Wn Hn (laid Wn X Y MW MH ml dx dy ink l)) true
  | 0, y0, hy => by
    refine Ev.step (f := fun _ => some true) (fun k => ?_) (Ev.now _)
    rw [seriflaw22_BlendOutside.l0, if_neg (by omega), if_pos rfl, beq_self_eq_true]
  | e + 1, y0, hy => by
    have h1 := out_l1 hW hH hq hk hl hX hY hdx hdy Wn 0 y0 (by omega) (by omega) (out_l0 e (y0 + 1) (by omega))
    rw [show ((0 : Nat) : Int) = 0 from rfl] at h1
    refine Ev.step (fun k => ?_) h1
    rw [seriflaw22_BlendOutside.l0, if_pos (by omega)]
end
theorem BlendOutside (W H X Y MW MH dx dy ink : Int) (l ml : List Int) (hl : l.length ≤ 140737488351232) (hml : ml.length ≤ 140737488351232) (hqb : ∀ z ∈ l, 0 ≤ z ∧ z ≤ 255) (hm : ∀ z ∈ ml, 0 ≤ z ∧ z ≤ 255) (hi : 0 ≤ ink ∧ ink ≤ 255) :
    ∃ k, seriflaw22_BlendOutside.f k W H l X Y MW MH ml dx dy ink = some true := by
  refine Ev.rounds (g := fun k => seriflaw22_BlendOutside.f k W H l X Y MW MH ml dx dy ink) ?_
  unfold seriflaw22_BlendOutside.f
  simp only [alive, Option.bind_some, if_true]
  have T : Ev (fun k => seriflaw22_BlendOutside.j0 k true W H l X Y MW MH ml dx dy ink) true := Ev.step (f := fun _ => some true) (fun k => by rw [seriflaw22_BlendOutside.j0, if_pos rfl]) (Ev.now _)
  have M : (-5000 ≤ dx ∧ dx ≤ 5000) → (-5000 ≤ dy ∧ dy ≤ 5000) → (-5000 ≤ X ∧ X ≤ 5000) → (-5000 ≤ Y ∧ Y ≤ 5000) → Ev (fun k => seriflaw22_BlendOutside.j0 k false W H l X Y MW MH ml dx dy ink) true := fun hdx hdy hX hY => by
    have E1 := over_ev W H l X Y MW MH ml dx dy ink (by omega) (by omega) hqb hm hi
    refine Ev.step (f := fun k => (blend_Over.f k W H l X Y MW MH ml dx dy ink).bind fun bt140 => if bt140.2.2.2 = 0 then (seriflaw22_BlendOutside.l0 k 0 W H l X Y MW MH ml dx dy ink bt140.1 bt140.2.1 bt140.2.2.1) else (if (bt140.2.2.1.length : Int) = 0 then (some (bt140.2.2.2 == 225)) else (some false))) (fun k => ?_) (Ev.bind E1 ?_)
    · rw [seriflaw22_BlendOutside.j0, if_neg (by decide), copy_f W H l (by omega)]
      simp only [Option.bind_some]
    · unfold overV
      by_cases o : okP W H l.length ∧ okM MW MH ml.length
      · rw [if_pos o]
        simp only [if_true]
        obtain ⟨hp, hk⟩ := o
        obtain ⟨Wn, rfl⟩ : ∃ n : Nat, W = (n : Int) := ⟨W.toNat, by have := hp.1; omega⟩
        obtain ⟨Hn, rfl⟩ : ∃ n : Nat, H = (n : Int) := ⟨H.toNat, by have := hp.2.1; omega⟩
        have hq : l.length = Wn * Hn := by have := hp.2.2; exact_mod_cast this
        exact out_l0 (by have := hp.1; omega) (by have := hp.2.1; omega) hq hk (by omega) hX hY hdx hdy Hn 0 (by omega)
      · rw [if_neg o]
        simp only [show ¬ ((225 : Int) = 0) by decide, if_false, List.length_nil]
        exact Ev.now _
  by_cases c1 : dx < -5000
  · simp only [if_pos c1]; exact T
  · by_cases c2 : dx > 5000
    · simp only [if_neg c1, if_pos c2]; exact T
    · by_cases c3 : dy < -5000
      · simp only [if_neg c1, if_neg c2, if_pos c3]; exact T
      · by_cases c4 : dy > 5000
        · simp only [if_neg c1, if_neg c2, if_neg c3, if_pos c4]; exact T
        · by_cases c5 : X < -5000
          · simp only [if_neg c1, if_neg c2, if_neg c3, if_neg c4, if_pos c5]; exact T
          · by_cases c6 : X > 5000
            · simp only [if_neg c1, if_neg c2, if_neg c3, if_neg c4, if_neg c5, if_pos c6]; exact T
            · by_cases c7 : Y < -5000
              · simp only [if_neg c1, if_neg c2, if_neg c3, if_neg c4, if_neg c5, if_neg c6, if_pos c7]; exact T
              · by_cases c8 : Y > 5000
                · simp only [if_neg c1, if_neg c2, if_neg c3, if_neg c4, if_neg c5, if_neg c6, if_neg c7, decide_eq_true c8]; exact T
                · simp only [if_neg c1, if_neg c2, if_neg c3, if_neg c4, if_neg c5, if_neg c6, if_neg c7, decide_eq_false c8]
                  exact M (by omega) (by omega) (by omega) (by omega)
end Go.Proofs.Ytplnaannfnhhgab.Pure
