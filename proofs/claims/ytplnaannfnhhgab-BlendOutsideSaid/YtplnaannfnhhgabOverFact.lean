/- What blend.Over leaves, pixel by pixel. -/
import Derived.Test.YtplnaannfnhhgabOver
namespace Go.Proofs.Ytplnaannfnhhgab.F
open Go.RowKit Go.Proofs.YtplnaannfnhhgabW.PrintWords Go.Proofs.YtplnaannfnhhgabW.PrintLast Go.Proofs.Ytplnaannfnhhgab.D
set_option linter.unusedVariables false
set_option linter.unusedSimpArgs false

/-! ### one pixel by the program's own functions -/
theorem mixv_of {u i a : Int} (hu : 0 ≤ u ∧ u ≤ 255) (hi : 0 ≤ i ∧ i ≤ 255) (ha : 0 ≤ a ∧ a ≤ 255) : mixv u i a = mixOf u i a := by
  have hb := mixOf_byte hu hi ha
  have p1 := mprod_bound (x := u) (y := 255 - a) (by omega) (by omega)
  have p2 := mprod_bound (x := i) (y := a) (by omega) ha
  have e : u * (255 - a) + i * a + 127 = 255 * u + (i - u) * a + 127 := by rw [Int.mul_sub, Int.sub_mul]; omega
  unfold mixv blend_Mix.f
  rw [w64 (x := u) (by omega) (by omega), w64 (x := a) (by omega) (by omega), w64 (x := 255 - a) (by omega) (by omega), w64 (x := u * (255 - a)) (by omega) (by omega), w64 (x := i) (by omega) (by omega), w64 (x := i * a) (by omega) (by omega), w64 (x := u * (255 - a) + i * a) (by omega) (by omega), w64 (x := u * (255 - a) + i * a + 127) (by omega) (by omega), e]
  have n0 : 0 ≤ 255 * u + (i - u) * a + 127 := by unfold mixOf at hb; omega
  rw [Int.tdiv_eq_ediv_of_nonneg n0]
  unfold mixOf at *
  rw [w64 (by omega) (by omega), Option.getD_some]
  omega
/-- The two numbers' sum is no number of theirs. -/
def farOff (a b : Int) : Prop := (a < 0 ∧ b < 0 ∧ 0 ≤ wrap64 (a + b)) ∨ (0 < a ∧ 0 < b ∧ wrap64 (a + b) < 0)
instance (a b : Int) : Decidable (farOff a b) := by unfold farOff; infer_instance
theorem near_val (a b : Int) : blend_near.f a b = some (wrap64 (a + b), decide (¬ farOff a b ∧ -1099511627776 ≤ wrap64 (a + b) ∧ wrap64 (a + b) ≤ 1099511627776)) := by
  unfold blend_near.f
  repeat' split
  all_goals simp only [Option.some.injEq, Prod.mk.injEq, true_and]
  all_goals first
    | (symm; apply decide_eq_false; unfold farOff; omega)
    | (apply decide_eq_decide.2; unfold farOff; omega)
/-- From which column of a mask a page's column takes; -1: none. -/
def fromv (at_ x d n : Int) : Int := if farOff x d ∨ wrap64 (x + d) > at_ ∨ wrap64 (x + d) < -1099511627776 ∨ at_ - wrap64 (x + d) ≥ n then -1 else at_ - wrap64 (x + d)
/-- What a mask lays on the page's pixel (X0, Y0). -/
def covOf (X Y MW MH : Int) (ml : List Int) (dx dy X0 Y0 : Int) : Int := if fromv X0 X dx MW < 0 then 0 else if fromv Y0 Y dy MH < 0 then 0 else rd ml (fromv Y0 Y dy MH * MW + fromv X0 X dx MW)
def laid (W X Y MW MH : Int) (ml : List Int) (dx dy ink : Int) (l : List Int) : List Int := (List.range l.length).map fun (k : Nat) => mixOf (rd l (k : Int)) ink (covOf X Y MW MH ml dx dy ((k : Int) % W) ((k : Int) / W))
theorem laid_length (W X Y MW MH : Int) (ml : List Int) (dx dy ink : Int) (l : List Int) : (laid W X Y MW MH ml dx dy ink l).length = l.length := by simp [laid]
theorem rd_nat (l : List Int) (k : Nat) (h : k < l.length) : rd l (k : Int) = l[k] := by simp [rd, h]
theorem laid_at (W X Y MW MH : Int) (ml : List Int) (dx dy ink : Int) (l : List Int) (k : Nat) (h : k < l.length) : rd (laid W X Y MW MH ml dx dy ink l) (k : Int) = mixOf (rd l (k : Int)) ink (covOf X Y MW MH ml dx dy ((k : Int) % W) ((k : Int) / W)) := by
  rw [rd_nat _ _ (by rw [laid_length]; exact h)]
  simp [laid]
theorem rd_set (l : List Int) (n : Int) (v : Int) (k : Nat) (h0 : 0 ≤ n) (h1 : n < l.length) : rd (l.set n.toNat v) (k : Int) = if (k : Int) = n then v else rd l (k : Int) := by
  unfold rd
  rw [Int.toNat_natCast]
  by_cases h : (k : Int) = n
  · rw [if_pos h]
    have : n.toNat = k := by omega
    rw [this]
    simp [List.getD_eq_getElem?_getD, List.getElem?_set, show k < l.length by omega]
  · rw [if_neg h]
    have : n.toNat ≠ k := by omega
    simp [List.getD_eq_getElem?_getD, List.getElem?_set, this]
/-! ### one row -/
theorem iter_row (W MW x y ink : Int) (ml : List Int) (j : Int) : ∀ (d : Nat) (i : Int) (q : List Int) (k : Nat), (d = 0 ∨ 0 ≤ (y + j) * W + x + i ∧ (y + j) * W + x + i + d ≤ q.length) →
    rd (iter (px W MW x y ink ml j) d i q) (k : Int) = if (y + j) * W + x + i ≤ k ∧ (k : Int) < (y + j) * W + x + i + d then mixv (rd q (k : Int)) ink (rd ml (j * MW + ((k : Int) - ((y + j) * W + x)))) else rd q (k : Int)
  | 0, i, q, k, _ => by
    rw [iter, if_neg (by omega)]
  | d + 1, i, q, k, h => by
    have h0 : 0 ≤ (y + j) * W + x + i ∧ (y + j) * W + x + i + (d + 1 : Nat) ≤ q.length := by omega
    rw [iter, iter_row W MW x y ink ml j d (i + 1) _ k (by rw [px_length]; omega)]
    have hs : rd (px W MW x y ink ml j i q) (k : Int) = if (k : Int) = (y + j) * W + x + i then mixv (rd q ((y + j) * W + x + i)) ink (rd ml (j * MW + i)) else rd q (k : Int) := rd_set q _ _ k h0.1 (by omega)
    rw [hs]
    by_cases hk : (k : Int) = (y + j) * W + x + i
    · rw [if_neg (by omega), if_pos hk, if_pos (by omega), ← hk]
      rw [show (k : Int) - ((y + j) * W + x) = i by omega]
    · rw [if_neg hk]
      by_cases hk2 : (y + j) * W + x + i ≤ k ∧ (k : Int) < (y + j) * W + x + i + (d + 1 : Nat)
      · rw [if_pos (by omega), if_pos hk2]
      · rw [if_neg (by omega), if_neg hk2]
theorem row_one {r s c e W : Int} (hW : 0 ≤ W) (hc : 0 ≤ c ∧ c < W) (he : 0 ≤ e ∧ e < W) (h : r * W + c = s * W + e) : r = s ∧ c = e := by
  rcases Int.lt_trichotomy r s with hl | hl | hl
  · have := Int.mul_le_mul_of_nonneg_right (show r + 1 ≤ s by omega) hW
    rw [Int.add_mul, Int.one_mul] at this
    omega
  · subst hl
    exact ⟨rfl, by omega⟩
  · have := Int.mul_le_mul_of_nonneg_right (show s + 1 ≤ r by omega) hW
    rw [Int.add_mul, Int.one_mul] at this
    omega
/-! ### all rows -/
theorem iter_all (W H MW x y ink I0 : Int) (DI : Nat) (ml : List Int) (hW : 1 ≤ W) (hI : DI = 0 ∨ 0 ≤ x + I0 ∧ x + I0 + DI ≤ W) (X0 Y0 : Int) (hX : 0 ≤ X0 ∧ X0 < W) (n : Nat) (hn : (n : Int) = Y0 * W + X0) :
    ∀ (d : Nat) (j : Int) (q : List Int), (q.length : Int) = W * H → (d = 0 ∨ 0 ≤ y + j ∧ y + j + d ≤ H) →
    rd (iter (fun j q => iter (px W MW x y ink ml j) DI I0 q) d j q) (n : Int) = if (j ≤ Y0 - y ∧ Y0 - y < j + d) ∧ (I0 ≤ X0 - x ∧ X0 - x < I0 + DI) then mixv (rd q (n : Int)) ink (rd ml ((Y0 - y) * MW + (X0 - x))) else rd q (n : Int)
  | 0, j, q, _, _ => by
    rw [iter, if_neg (by omega)]
  | d + 1, j, q, hq, h => by
    have h0 : 0 ≤ y + j ∧ y + j + (d + 1 : Nat) ≤ H := by omega
    have hlen : (iter (px W MW x y ink ml j) DI I0 q).length = q.length := iter_length (fun i q => px_length W MW x y ink ml j i q) DI I0 q
    rw [iter, iter_all W H MW x y ink I0 DI ml hW hI X0 Y0 hX n hn d (j + 1) _ (by rw [hlen]; exact hq) (by omega)]
    have p0 : 0 ≤ (y + j) * W := Int.mul_nonneg h0.1 (by omega)
    have p1 : (y + j) * W ≤ (H - 1) * W := Int.mul_le_mul_of_nonneg_right (by omega) (by omega)
    have p2 : (H - 1) * W = W * H - W := by rw [Int.sub_mul, Int.one_mul, Int.mul_comm]
    rw [iter_row W MW x y ink ml j DI I0 q n (by omega)]
    by_cases hr : Y0 = y + j
    · subst hr
      rw [if_neg (by omega)]
      by_cases hc : I0 ≤ X0 - x ∧ X0 - x < I0 + DI
      · rw [if_pos (by omega), if_pos ⟨by omega, hc⟩]
        rw [show (n : Int) - ((y + j) * W + x) = X0 - x by omega, show y + j - y = j by omega]
      · rw [if_neg (by omega), if_neg (by omega)]
    · have hne : ¬ ((y + j) * W + x + I0 ≤ n ∧ (n : Int) < (y + j) * W + x + I0 + DI) := fun hh => by
        rcases hI with hI | hI
        · omega
        · have := row_one (r := y + j) (s := Y0) (c := n - (y + j) * W) (e := X0) (W := W) (by omega) (by omega) hX (by omega)
          omega
      rw [if_neg hne]
      by_cases hc : (j + 1 ≤ Y0 - y ∧ Y0 - y < j + 1 + (d : Nat)) ∧ (I0 ≤ X0 - x ∧ X0 - x < I0 + DI)
      · rw [if_pos hc, if_pos (by omega)]
      · rw [if_neg hc, if_neg (by omega)]
theorem rd_byte {l : List Int} (hl : ∀ z ∈ l, 0 ≤ z ∧ z ≤ 255) (i : Int) : 0 ≤ rd l i ∧ rd l i ≤ 255 := by
  unfold rd
  rw [List.getD_eq_getElem?_getD]
  cases h : l[i.toNat]? with
  | none => simp
  | some v =>
    obtain ⟨h1, h2⟩ := List.getElem?_eq_some_iff.1 h
    have := hl v (by rw [← h2]; exact List.getElem_mem h1)
    simpa using this
theorem covOf_byte {X Y MW MH : Int} {ml : List Int} (hm : ∀ z ∈ ml, 0 ≤ z ∧ z ≤ 255) (dx dy X0 Y0 : Int) : 0 ≤ covOf X Y MW MH ml dx dy X0 Y0 ∧ covOf X Y MW MH ml dx dy X0 Y0 ≤ 255 := by
  unfold covOf
  split
  · omega
  · split
    · omega
    · exact rd_byte hm _
theorem fromv_far {at_ x d n : Int} (h0 : 0 ≤ at_ ∧ at_ ≤ 1024) (h : ¬ (¬ farOff x d ∧ -1099511627776 ≤ wrap64 (x + d) ∧ wrap64 (x + d) ≤ 1099511627776)) : fromv at_ x d n = -1 := by
  unfold fromv
  rw [if_pos]
  by_cases hf : farOff x d
  · exact .inl hf
  · right
    have : ¬ (-1099511627776 ≤ wrap64 (x + d) ∧ wrap64 (x + d) ≤ 1099511627776) := fun hh => h ⟨hf, hh⟩
    omega
theorem fromv_near {at_ x d n : Int} (h : ¬ farOff x d ∧ -1099511627776 ≤ wrap64 (x + d) ∧ wrap64 (x + d) ≤ 1099511627776) : fromv at_ x d n = if 0 ≤ at_ - wrap64 (x + d) ∧ at_ - wrap64 (x + d) < n then at_ - wrap64 (x + d) else -1 := by
  unfold fromv
  by_cases hc : 0 ≤ at_ - wrap64 (x + d) ∧ at_ - wrap64 (x + d) < n
  · rw [if_pos hc, if_neg]
    rintro (hh | hh)
    · exact h.1 hh
    · omega
  · rw [if_neg hc, if_pos]
    right
    omega
theorem into_laid {W H X Y MW MH : Int} {q ml : List Int} {dx dy ink : Int} (hW : 1 ≤ W ∧ W ≤ 1024) (hH : 1 ≤ H ∧ H ≤ 1024) (hq : (q.length : Int) = W * H) (hqb : ∀ z ∈ q, 0 ≤ z ∧ z ≤ 255) (hm : ∀ z ∈ ml, 0 ≤ z ∧ z ≤ 255) (hi : 0 ≤ ink ∧ ink ≤ 255)
    (hMW : 0 ≤ MW) (hMH : 0 ≤ MH) : into W H q X Y MW MH ml dx dy ink = laid W X Y MW MH ml dx dy ink q := by
  have hlen : (into W H q X Y MW MH ml dx dy ink).length = q.length := by
    unfold into
    split
    · exact iter_length (fun j q => iter_length (fun i q => px_length _ _ _ _ _ _ _ _ _) _ _ _) _ _ _
    · rfl
  refine List.ext_getElem (by rw [hlen, laid_length]) fun n h1 h2 => ?_
  have hn : n < q.length := by omega
  rw [← rd_nat _ n h1, ← rd_nat _ n h2, laid_at _ _ _ _ _ _ _ _ _ _ _ hn]
  obtain ⟨Y0, hY0⟩ : ∃ Y0, Y0 = (n : Int) / W := ⟨_, rfl⟩
  obtain ⟨X0, hX0⟩ : ∃ X0, X0 = (n : Int) % W := ⟨_, rfl⟩
  rw [← hY0, ← hX0]
  have hdm : (n : Int) = Y0 * W + X0 := by
    have := Int.mul_ediv_add_emod (n : Int) W
    rw [← hY0, ← hX0, Int.mul_comm] at this
    omega
  have hX : 0 ≤ X0 ∧ X0 < W := ⟨by rw [hX0]; exact Int.emod_nonneg _ (by omega), by rw [hX0]; exact Int.emod_lt_of_pos _ (by omega)⟩
  have hYn : 0 ≤ Y0 := by rw [hY0]; exact Int.ediv_nonneg (by omega) (by omega)
  have hYH : Y0 < H := by
    rcases Int.lt_or_le Y0 H with h | h
    · exact h
    · have := Int.mul_le_mul_of_nonneg_right h (show 0 ≤ W by omega)
      rw [Int.mul_comm H W] at this
      omega
  have hu := rd_byte hqb (n : Int)
  clear hY0 hX0
  unfold into covOf
  rw [near_val, near_val]
  by_cases hx : ¬ farOff X dx ∧ -1099511627776 ≤ wrap64 (X + dx) ∧ wrap64 (X + dx) ≤ 1099511627776
  · by_cases hy : ¬ farOff Y dy ∧ -1099511627776 ≤ wrap64 (Y + dy) ∧ wrap64 (Y + dy) ≤ 1099511627776
    · rw [decide_eq_true hx, decide_eq_true hy, fromv_near hx, fromv_near hy]
      have hx2 := hx.2
      have hy2 := hy.2
      generalize wrap64 (X + dx) = x at *
      generalize wrap64 (Y + dy) = y at *
      dsimp only
      have w1 : wrap64 (-x) = -x := w64 (by omega) (by omega)
      have w2 : wrap64 (W - x) = W - x := w64 (by omega) (by omega)
      have w3 : wrap64 (-y) = -y := w64 (by omega) (by omega)
      have w4 : wrap64 (H - y) = H - y := w64 (by omega) (by omega)
      rw [w1, w2, w3, w4]
      have eI0 : mx 0 (-x) = if 0 < -x then -x else 0 := rfl
      have eI1 : mn MW (W - x) = if W - x < MW then W - x else MW := rfl
      have eJ0 : mx 0 (-y) = if 0 < -y then -y else 0 := rfl
      have eJ1 : mn MH (H - y) = if H - y < MH then H - y else MH := rfl
      generalize mx 0 (-x) = I0 at *
      generalize mn MW (W - x) = I1 at *
      generalize mx 0 (-y) = J0 at *
      generalize mn MH (H - y) = J1 at *
      have fI0 : 0 ≤ I0 ∧ -x ≤ I0 ∧ (I0 = 0 ∨ I0 = -x) := by split at eI0 <;> omega
      have fI1 : I1 ≤ MW ∧ I1 ≤ W - x ∧ (I1 = MW ∨ I1 = W - x) := by split at eI1 <;> omega
      have fJ0 : 0 ≤ J0 ∧ -y ≤ J0 ∧ (J0 = 0 ∨ J0 = -y) := by split at eJ0 <;> omega
      have fJ1 : J1 ≤ MH ∧ J1 ≤ H - y ∧ (J1 = MH ∨ J1 = H - y) := by split at eJ1 <;> omega
      rw [iter_all W H MW x y ink I0 (I1 - I0).toNat ml hW.1 (by omega) X0 Y0 hX n hdm (J1 - J0).toNat J0 q hq (by omega)]
      by_cases hc : (J0 ≤ Y0 - y ∧ Y0 - y < J0 + (J1 - J0).toNat) ∧ (I0 ≤ X0 - x ∧ X0 - x < I0 + (I1 - I0).toNat)
      · rw [if_pos hc, if_pos (show 0 ≤ X0 - x ∧ X0 - x < MW by omega), if_pos (show 0 ≤ Y0 - y ∧ Y0 - y < MH by omega), if_neg (by omega), if_neg (by omega)]
        exact mixv_of hu hi (rd_byte hm _)
      · rw [if_neg hc]
        by_cases h3 : 0 ≤ X0 - x ∧ X0 - x < MW
        · have h4 : ¬ (0 ≤ Y0 - y ∧ Y0 - y < MH) := by omega
          rw [if_pos h3, if_neg h4, if_neg (by omega), if_pos (by decide), mixOf_0]
        · rw [if_neg h3, if_pos (by decide), mixOf_0]
    · rw [decide_eq_true hx, decide_eq_false hy, fromv_far (n := MH) ⟨hYn, by omega⟩ hy]
      try dsimp only
      rw [if_pos (show (-1 : Int) < 0 by decide), ite_self, mixOf_0]
  · rw [decide_eq_false hx, fromv_far (n := MW) ⟨hX.1, by omega⟩ hx]
    try dsimp only
    rw [if_pos (show (-1 : Int) < 0 by decide), mixOf_0]
/-! ### the whole -/
def okP (W H : Int) (n : Nat) : Prop := (1 ≤ W ∧ W ≤ 1024) ∧ (1 ≤ H ∧ H ≤ 1024) ∧ (n : Int) = W * H
def okM (MW MH : Int) (n : Nat) : Prop := 0 ≤ MW ∧ 0 ≤ MH ∧ (n : Int) = MW * MH
instance (W H : Int) (n : Nat) : Decidable (okP W H n) := by unfold okP; infer_instance
instance (W H : Int) (n : Nat) : Decidable (okM W H n) := by unfold okM; infer_instance
def overV (W H : Int) (l : List Int) (X Y MW MH : Int) (ml : List Int) (dx dy ink : Int) : Int × Int × List Int × Int :=
  if okP W H l.length ∧ okM MW MH ml.length then (W, H, laid W X Y MW MH ml dx dy ink l, 0) else (0, 0, [], 225)
theorem side_val (n : Int) : blend_side.f n = some (decide (1 ≤ n ∧ n ≤ 1024)) := by
  unfold blend_side.f
  by_cases h : n ≥ 1
  · rw [if_pos h]
    have h' : (1 ≤ n) := h
    simp [h']
  · rw [if_neg h]
    have h' : ¬ (1 ≤ n) := h
    simp [h']
theorem whole_ev (a b MW MH : Int) (ml : List Int) (hl : ml.length ≤ 9223372036854775807) : Ev (fun k => blend_whole.f k a b MW MH ml) (decide (okM MW MH ml.length)) := by
  refine ⟨1, fun k hk => ?_⟩
  obtain ⟨k, rfl⟩ : ∃ m, k = m + 1 := ⟨k - 1, by omega⟩
  show blend_whole.f (k + 1) a b MW MH ml = some (decide (okM MW MH ml.length))
  cases hb : blend_whole.f (k + 1) a b MW MH ml with
  | none =>
    exfalso
    unfold blend_whole.f at hb
    simp only [blend_whole.j0] at hb
    repeat' split at hb
    all_goals cases hb
  | some v =>
    cases v with
    | true => rw [decide_eq_true (show okM MW MH ml.length from whole_true hl hb)]
    | false =>
      congr 1
      symm
      apply decide_eq_false
      rintro ⟨h0, h1, h2⟩
      unfold blend_whole.f at hb
      rw [if_neg (by omega), decide_eq_false (by omega), blend_whole.j0, if_neg (by decide)] at hb
      by_cases c1 : MW = 0
      · rw [if_pos c1] at hb
        subst c1
        rw [Int.zero_mul] at h2
        rw [h2] at hb
        exact absurd hb (by decide)
      · rw [if_neg c1] at hb
        by_cases c2 : MH = 0
        · rw [if_pos c2] at hb
          subst c2
          rw [Int.mul_zero] at h2
          rw [h2] at hb
          exact absurd hb (by decide)
        · rw [if_neg c2, h2, Int.mul_emod_right, if_pos rfl, Int.mul_ediv_cancel_left _ c1] at hb
          have h3 : MH ≤ MW * MH := by
            have := Int.mul_le_mul_of_nonneg_right (show 1 ≤ MW by omega) h1
            omega
          rw [w64 (by omega) (by omega), beq_self_eq_true] at hb
          cases hb
theorem over_ev (W H : Int) (l : List Int) (X Y MW MH : Int) (ml : List Int) (dx dy ink : Int) (hl : l.length < 140737488355328) (hml : ml.length ≤ 9223372036854775807)
    (hqb : ∀ z ∈ l, 0 ≤ z ∧ z ≤ 255) (hm : ∀ z ∈ ml, 0 ≤ z ∧ z ≤ 255) (hi : 0 ≤ ink ∧ ink ≤ 255) :
    Ev (fun k => blend_Over.f k W H l X Y MW MH ml dx dy ink) (overV W H l X Y MW MH ml dx dy ink) := by
  unfold blend_Over.f overV
  simp only [side_val, Option.bind_some]
  by_cases hW : 1 ≤ W ∧ W ≤ 1024
  · by_cases hH : 1 ≤ H ∧ H ≤ 1024
    · simp only [decide_eq_true hW, decide_eq_true hH, if_true]
      have h0 : 0 ≤ W * H := Int.mul_nonneg (by omega) (by omega)
      have h1 := Int.mul_le_mul hW.2 hH.2 (by omega) (by omega)
      rw [w64 (x := W * H) (by omega) (by omega)]
      by_cases hq : (l.length : Int) = W * H
      · simp only [if_pos hq]
        by_cases hk : okM MW MH ml.length
        · rw [if_pos ⟨⟨hW, hH, hq⟩, hk⟩]
          refine Ev.bind (whole_ev X Y MW MH ml hml) ?_
          simp only [decide_eq_true hk, if_true]
          have e : slices_Clone_byte_byte.f l = some l := by
            unfold slices_Clone_byte_byte.f
            rw [Option.bind_some, if_pos (by simpa using hl)]
            rfl
          simp only [e, Option.bind_some]
          rw [into_laid hW hH hq hqb hm hi hk.1 hk.2.1]
          exact Ev.now _
        · rw [if_neg (fun hh => hk hh.2)]
          refine Ev.bind (whole_ev X Y MW MH ml hml) ?_
          simp only [decide_eq_false hk, Bool.false_eq_true, if_false]
          exact Ev.now _
      · simp only [if_neg hq]
        rw [if_neg (fun hh => hq hh.1.2.2)]
        exact Ev.now _
    · simp only [decide_eq_true hW, decide_eq_false hH, if_true, Bool.false_eq_true, if_false]
      rw [if_neg (fun hh => hH hh.1.2.1)]
      exact Ev.now _
  · simp only [decide_eq_false hW, Bool.false_eq_true, if_false]
    rw [if_neg (fun hh => hW hh.1.1)]
    exact Ev.now _
end Go.Proofs.Ytplnaannfnhhgab.F
