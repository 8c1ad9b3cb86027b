/- The plain functions of some Go functions and the proofs that the Go code comes to their answers: written by a program out of the translation. -/
import Derived.Test.YteoonjnmghponaaZPx0
import Derived.Test.YteoonjnmghponaaZPx1
import Derived.Test.YteoonjnmghponaaZUb
namespace Go.Proofs.Yteoonjnmghponaa.P
open Go.RowKit Go.Proofs.YteoonjnmghponaaW.PrintWords Go.Proofs.YteoonjnmghponaaW.PrintLast Go.Proofs.YteoonjnmghponaaW.PrintMore
attribute [local go_sem] max2_int min2_int max_two min_two max_three min_three max_four min_four   -- for this text's walks alone
open Go.Proofs.Yteoonjnmghponaa.F
set_option linter.unusedVariables false
set_option linter.unusedSimpArgs false

/-! ### breaks_classes: function 25 -/
def breaks_classes.l0 : Nat → List Int → List Bool → List Int → Int → Int → Option (List Int × List Bool)
 | 0, _, _, _, _, _ => none
 | k + 1, x4, x5, x15, x16, x17 => if x17 < x16 then (if 0 ≤ x17 then (if x17 < (x15.length : Int) then ((ucd_Look.f (rd x15 x17)).bind fun bt134 => (if bt134.2.2 = 8 then (if x17 > 0 then (if 0 ≤ (wrap64 (x17 - 1)) then (if (wrap64 (x17 - 1)) < (x4.length : Int) then ((breaks_ends.f k (rd x4 (wrap64 (x17 - 1)))).bind fun t138 => (if t138 = true then (if x17 < (x4.length : Int) then (breaks_classes.l0 k (x4.set (x17 : Int).toNat 0) x5 x15 x16 (wrap64 (x17 + 1))) else (none)) else (if x17 < (x5.length : Int) then (if x17 < (x4.length : Int) then (breaks_classes.l0 k (x4.set (x17 : Int).toNat (rd x4 (wrap64 (x17 - 1)))) (x5.set (x17 : Int).toNat true) x15 x16 (wrap64 (x17 + 1))) else (none)) else (none)))) else (none)) else (none)) else (if x17 < (x4.length : Int) then (breaks_classes.l0 k (x4.set (x17 : Int).toNat 0) x5 x15 x16 (wrap64 (x17 + 1))) else (none))) else (if x17 < (x4.length : Int) then (breaks_classes.l0 k (x4.set (x17 : Int).toNat bt134.2.2) x5 x15 x16 (wrap64 (x17 + 1))) else (none)))) else (none)) else (none)) else (some (x4, x5))
def breaks_classes.f (k : Nat) (l0 : List Int) : Option (List Int × List Bool) := if 0 ≤ (l0.length : Int) then (if ((l0.length : Int) : Int).toNat ≤ 35184372088832 then (if ((l0.length : Int) : Int).toNat ≤ 281474976710656 then (breaks_classes.l0 k (List.replicate ((l0.length : Int) : Int).toNat 0) (List.replicate ((l0.length : Int) : Int).toNat false) l0 (l0.length : Int) 0) else (none)) else (none)) else (none)
theorem breaks_classes.mono_l : ∀ k, (∀ y0 y1 y2 y3 y4, LeO (breaks_classes.l0 k y0 y1 y2 y3 y4) (breaks_classes.l0 (k + 1) y0 y1 y2 y3 y4))
 | 0 => fun _ _ _ _ _ r h => by simp [breaks_classes.l0] at h
 | k + 1 => by
  have ih0 := breaks_classes.mono_l k
  ·intro y0 y1 y2 y3 y4
   unfold breaks_classes.l0
   repeat' first
   | (with_reducible exact ih0 _ _ _ _ _)
   | (with_reducible exact breaks_ends.mono _ _)
   | (with_reducible exact LeO.refl _)
   | (with_reducible exact LeO.none _)
   | (with_reducible refine LeO.ite ?_ ?_)
   | (with_reducible refine LeO.bind ?_ (fun _ => ?_))
   | exact ih0 _ _ _ _ _
   | exact breaks_ends.mono _ _
   | exact LeO.none _
   | refine LeO.ite ?_ ?_
   | refine LeO.bind ?_ (fun _ => ?_)
theorem breaks_classes.mono : ∀ a0 k, LeO (breaks_classes.f k a0) (breaks_classes.f (k + 1) a0) := by
 intro a0 k
 have ih0 := breaks_classes.mono_l k
 unfold breaks_classes.f
 repeat' first
   | (with_reducible exact ih0 _ _ _ _ _)
   | (with_reducible exact breaks_ends.mono _ _)
   | (with_reducible exact LeO.refl _)
   | (with_reducible exact LeO.none _)
   | (with_reducible refine LeO.ite ?_ ?_)
   | (with_reducible refine LeO.bind ?_ (fun _ => ?_))
   | exact ih0 _ _ _ _ _
   | exact breaks_ends.mono _ _
   | exact LeO.none _
   | refine LeO.ite ?_ ?_
   | refine LeO.bind ?_ (fun _ => ?_)
def breaks_classes.T1 : Bool × List (List Nat × List Nat) := (true, [([], []), ([0], [0]), ([1, 1], [1]), ([], []), ([3], [3]), ([4, 4], [4]), ([2, 0, 1, 2], [2]), ([5, 6, 0, 1, 2, 3, 4, 5, 6], [5])])
def breaks_classes.B1 : List Nat := [0, 1, 3, 0, 8, 24, 7, 127]
theorem breaks_classes.tab1 : rtab .any (opsOf Try.f25 1) = breaks_classes.T1 := by kernel_rfl
theorem breaks_classes.bits1 : waitsOk breaks_classes.T1.2 breaks_classes.B1 = true := by kernel_rfl
set_option maxHeartbeats 8000000 in
set_option maxRecDepth 100000 in
theorem breaks_classes.calls (k : Nat) (A0 : Option Addr) (c0 : Nat) (l0 : List Int) (r1 : List Int) (r2 : List Bool) (w : World) (hr0 : Kd.C (Kd.int .i64) w A0 l0.length l0) (hc0 : l0.length ≤ c0) (h : breaks_classes.f k l0 = some (r1, r2)) :
  Calls Try.prog 25 #[.slice A0 l0.length c0] w fun e w' => ∃ v0_ v1_ : Value, e = .returned (.tuple #[v0_, v1_]) ∧ Kd.R (Kd.int .i64) 3 w' w.heap.size (fun _ => True) v0_ r1 ∧ Kd.R Kd.bool 4 w' w.heap.size (fun _ => True) v1_ r2 ∧ Below w.heap.size w w' := by
 have HR0 := Aside0.mk hr0
 have HC0 := Aside0.mk hc0
 clear hr0 hc0
 have HB := Aside0.mk (Below.refl w.heap.size w)
 have H : (if 0 ≤ (l0.length : Int) then (if ((l0.length : Int) : Int).toNat ≤ 35184372088832 then (if ((l0.length : Int) : Int).toNat ≤ 281474976710656 then (breaks_classes.l0 k (List.replicate ((l0.length : Int) : Int).toNat 0) (List.replicate ((l0.length : Int) : Int).toNat false) l0 (l0.length : Int) 0) else (none)) else (none)) else (none)) = some (r1, r2) := h
 clear h
 by_cases c2 : 0 ≤ (l0.length : Int)
 ·rw [if_pos c2] at H
  have c2b0 := eq_true c2
  have c2b1 : decide (0 ≤ (l0.length : Int)) = true := decide_eq_true c2
  clear c2
  by_cases c3 : ((l0.length : Int) : Int).toNat ≤ 35184372088832
  ·rw [if_pos c3] at H
   have c3b0 := eq_true c3
   have c3b1 : decide (((l0.length : Int) : Int).toNat ≤ 35184372088832) = true := decide_eq_true c3
   clear c3
   obtain ⟨y127, hy127⟩ : ∃ y_ : List Int, y_ = (List.replicate ((l0.length : Int) : Int).toNat 0) := ⟨_, rfl⟩
   replace H : (if ((l0.length : Int) : Int).toNat ≤ 281474976710656 then (breaks_classes.l0 k y127 (List.replicate ((l0.length : Int) : Int).toNat false) l0 (l0.length : Int) 0) else (none)) = some (r1, r2) := by first | (rw [hy127]; with_reducible exact H) | (have H2_ := (Option.bind_some _ _).symm.trans H; rw [hy127]; with_reducible exact H2_) | (have H2_ := (Option.bind_some _ _).symm.trans H; with_reducible exact H2_) | with_reducible exact H | (rw [hy127]; exact H) | exact H
   have Ny127 := Aside0.mk hy127
   clear hy127
   by_cases c4 : ((l0.length : Int) : Int).toNat ≤ 281474976710656
   ·rw [if_pos c4] at H
    have c4b0 := eq_true c4
    have c4b1 : decide (((l0.length : Int) : Int).toNat ≤ 281474976710656) = true := decide_eq_true c4
    clear c4
    obtain ⟨y130, hy130⟩ : ∃ y_ : List Bool, y_ = (List.replicate ((l0.length : Int) : Int).toNat false) := ⟨_, rfl⟩
    replace H : (breaks_classes.l0 k y127 y130 l0 (l0.length : Int) 0) = some (r1, r2) := by first | (rw [hy130]; with_reducible exact H) | (have H2_ := (Option.bind_some _ _).symm.trans H; rw [hy130]; with_reducible exact H2_) | (have H2_ := (Option.bind_some _ _).symm.trans H; with_reducible exact H2_) | with_reducible exact H | (rw [hy130]; exact H) | exact H
    have Ny130 := Aside0.mk hy130
    clear hy130
    have H' := Aside0.mk H
    clear H
    have hfd73_2 : ∀ (f0_ : Int) (f1_ : Int) (f2_ : Int) (w : World), (Instr.field 73 (.agg #[.int .i64 f0_, .int .i64 f1_, .int .i64 f2_]) 2).run Try.prog w = .ok (.int .i64 f2_) w := fun _ _ _  _ => by kernel_rfl
    go_enter Try.func25, Try.ntmps25
    try go_wp2
    have n0_ := Aside0.mk (below_drew1 HB.out)
    clear HB
    have HB := n0_
    clear n0_
    refine start_ (n := 8) (S := fun w' => True) (ds := []) #[false, false, false, false, false, false, false, false] (by kernel_rfl) rfl rfl trivial (fun hHeld => ?_); refine with_tabW breaks_classes.tab1 breaks_classes.bits1 (fun HT_ HW_ => ?_)
    generalize w.drew = w5 at HB hHeld ⊢
    refine pure_ (i := 0) (N := some 9) (v := ?_) (a' := ?_) #[true, false, false, false, false, false, false, false] rfl rfl (any_of HT_.out (by kernel_rfl)) (fun _ _ _ h => h) (Or.inl ⟨by rfl, ?_⟩) ?_ ?_
    rotate_left
    ·intro w'
     go_simp
     with_reducible rfl
    rotate_left
    ·simp only [Act.put, List.setIfInBounds_toArray, List.set_cons_zero, List.set_cons_succ, i64_w, i32_w]
     rfl
    refine pure_ (i := 1) (N := some 10) (v := ?_) (a' := ?_) #[true, true, false, false, false, false, false, false] rfl rfl (any_of HT_.out (by kernel_rfl)) (fun _ _ _ h => h) (Or.inl ⟨by rfl, ?_⟩) ?_ ?_
    rotate_left
    ·intro w'
     go_simp
     with_reducible rfl
    rotate_left
    ·simp only [Act.put, List.setIfInBounds_toArray, List.set_cons_zero, List.set_cons_succ, i64_w, i32_w]
     rfl
    refine pure_ (i := 3) (N := some 12) (v := ?_) (a' := ?_) #[true, true, false, true, false, false, false, false] rfl rfl (any_of HT_.out (by kernel_rfl)) (fun _ _ _ h => h) (Or.inl ⟨by rfl, ?_⟩) ?_ ?_
    rotate_left
    ·intro w'
     go_simp
     with_reducible rfl
    rotate_left
    ·simp only [Act.put, List.setIfInBounds_toArray, List.set_cons_zero, List.set_cons_succ, i64_w, i32_w]
     rfl
    refine pure_ (i := 4) (N := some 13) (v := ?_) (a' := ?_) #[true, true, false, true, true, false, false, false] rfl rfl (any_of HT_.out (by kernel_rfl)) (fun _ _ _ h => h) (Or.inl ⟨by rfl, ?_⟩) ?_ ?_
    rotate_left
    ·intro w'
     go_simp
     with_reducible rfl
    rotate_left
    ·simp only [Act.put, List.setIfInBounds_toArray, List.set_cons_zero, List.set_cons_succ, i64_w, i32_w]
     rfl
    refine join_ (σ := Value × Value) 1 #[true, true, true, true, true, true, true, false] (fun s_ => [(11, s_.1), (14, s_.2), (4, s_.1)]) (fun s_ w' => (Kd.R (Kd.int .i64) 3 w' w.heap.size (fun _ => True) s_.1 y127) ∧ (Kd.R Kd.bool 4 w' w.heap.size (fun _ => True) s_.2 y130) ∧ (Below w.heap.size w w')) ?_ ?_
    rotate_left
    ·intro hCont
     refine two_ (i := 2) (j := 5) (Ni := some 11) (Nj := some 14) #[true, true, true, true, true, false, false, false] #[true, true, false, true, true, true, false, false] rfl rfl rfl rfl (two_of HT_.out (by kernel_rfl)) (by decide) (by decide) (fun K hK => ?_) (fun K hK => ?_)
     ·skip
      refine Kd.R_make_step (Kd.int .i64) _ 3 (by rfl) (N := 11) rfl 42 _ _ rfl (l0.length : Int) rfl rfl Try.underlying42 (.int .i64 0) 8 info3 rfl (by decide) (by omega) 0 (ok := fun _ => True) (okp := fun _ => True) rfl (fun _ hk => hk) trivial (of_decide_eq_true (by first | (with_reducible assumption) | assumption)) (Nat.le_trans (Nat.mul_le_mul_right _ (of_decide_eq_true (by first | (with_reducible assumption) | assumption) : (l0.length : Int).toNat ≤ 35184372088832)) (by omega)) (Below.refl _ _) (Nat.le_refl _) ?_
      intro v128 w6 ho7 hb hg_ hnew_
      clear hg_ hnew_
      (first | rw [← Ny127.out] at ho7 | (simp only [Int.reduceToNat] at ho7; rw [← Ny127.out] at ho7))
      have n0_ := Aside0.mk (Kd.R_lower ho7 (below_size (by repeat (first | (with_reducible first | exact HB.out | apply below_alloc | apply pw_below_drewN | apply below_drew1) | exact HB.out))))
      have n1_ := Aside0.mk (below_step (by repeat (first | (with_reducible first | exact HB.out | apply below_alloc | apply pw_below_drewN | apply below_drew1) | exact HB.out)) hb)
      clear HB
      have HO129 := n0_
      have HB := n1_
      clear n0_ n1_
      clear hb ho7
      refine hK.out _ _ trivial (fun hHeld => ?_)
      clear hK K
      refine norm_ (a' := ?_) ?_ ?_
      rotate_left
      ·show Act.put _ (some 11) _ = _
       simp only [Act.put, List.setIfInBounds_toArray, List.set_cons_zero, List.set_cons_succ, i64_w, i32_w]
       rfl
      refine pure_ (i := 6) (N := some 4) (v := ?_) (a' := ?_) #[true, true, true, true, true, false, true, false] rfl rfl (any_of HT_.out (by kernel_rfl)) (fun _ _ _ h => h) (Or.inl ⟨by rfl, ?_⟩) ?_ ?_
      rotate_left
      ·intro w'
       go_simp
       with_reducible rfl
      rotate_left
      ·simp only [Act.put, List.setIfInBounds_toArray, List.set_cons_zero, List.set_cons_succ, i64_w, i32_w]
       rfl
      refine one_ (i := 5) (N := some 14) #[true, true, true, true, true, true, true, false] rfl rfl (one_of HT_.out (by kernel_rfl)) (by decide) (fun K hK => ?_)
      refine Kd.R_make_step Kd.bool _ 4 (by rfl) (N := 14) rfl 55 _ _ rfl (l0.length : Int) rfl rfl Try.underlying55 (.bool false) 1 info4 rfl (by decide) (by omega) false (ok := fun _ => True) (okp := fun _ => True) rfl (fun _ hk => hk) trivial (of_decide_eq_true (by first | (with_reducible assumption) | assumption)) (Nat.le_trans (Nat.mul_le_mul_right _ (of_decide_eq_true (by first | (with_reducible assumption) | assumption) : (l0.length : Int).toNat ≤ 281474976710656)) (by omega)) (Below.refl _ _) (Nat.le_refl _) ?_
      intro v131 w8 ho9 hb hg_ hnew_
      clear hg_ hnew_
      (first | rw [← Ny130.out] at ho9 | (simp only [Int.reduceToNat] at ho9; rw [← Ny130.out] at ho9))
      have n0_ := Aside0.mk (Kd.R_below (by (with_reducible repeat (first | apply Kd.R_alloc | apply Kd.R_drewN | apply Kd.R_drew)); exact HO129.out) hb)
      have n1_ := Aside0.mk (Kd.R_lower ho9 (below_size (by repeat (first | (with_reducible first | exact HB.out | apply below_alloc | apply pw_below_drewN | apply below_drew1) | exact HB.out))))
      have n2_ := Aside0.mk (below_step (by repeat (first | (with_reducible first | exact HB.out | apply below_alloc | apply pw_below_drewN | apply below_drew1) | exact HB.out)) hb)
      clear HO129
      clear HB
      have HO129 := n0_
      have HO132 := n1_
      have HB := n2_
      clear n0_ n1_ n2_
      clear hb ho9
      refine hK.out _ _ trivial (fun hHeld => ?_)
      clear hK K
      refine norm_ (a' := ?_) ?_ ?_
      rotate_left
      ·show Act.put _ (some 14) _ = _
       simp only [Act.put, List.setIfInBounds_toArray, List.set_cons_zero, List.set_cons_succ, i64_w, i32_w]
       rfl
      exact norm_ (by simp only [putAll, Act.put, List.setIfInBounds_toArray, List.set_cons_zero, List.set_cons_succ]) (hCont (v128, v131) _ ⟨(by (with_reducible repeat (first | apply Kd.R_alloc | apply Kd.R_drewN | apply Kd.R_drew)); exact HO129.out), (by (with_reducible repeat (first | apply Kd.R_alloc | apply Kd.R_drewN | apply Kd.R_drew)); exact HO132.out), (by repeat (first | (with_reducible first | exact HB.out | apply below_alloc | apply pw_below_drewN | apply below_drew1) | exact HB.out))⟩)
     ·skip
      refine Kd.R_make_step Kd.bool _ 4 (by rfl) (N := 14) rfl 55 _ _ rfl (l0.length : Int) rfl rfl Try.underlying55 (.bool false) 1 info4 rfl (by decide) (by omega) false (ok := fun _ => True) (okp := fun _ => True) rfl (fun _ hk => hk) trivial (of_decide_eq_true (by first | (with_reducible assumption) | assumption)) (Nat.le_trans (Nat.mul_le_mul_right _ (of_decide_eq_true (by first | (with_reducible assumption) | assumption) : (l0.length : Int).toNat ≤ 281474976710656)) (by omega)) (Below.refl _ _) (Nat.le_refl _) ?_
      intro v131 w6 ho7 hb hg_ hnew_
      clear hg_ hnew_
      (first | rw [← Ny130.out] at ho7 | (simp only [Int.reduceToNat] at ho7; rw [← Ny130.out] at ho7))
      have n0_ := Aside0.mk (Kd.R_lower ho7 (below_size (by repeat (first | (with_reducible first | exact HB.out | apply below_alloc | apply pw_below_drewN | apply below_drew1) | exact HB.out))))
      have n1_ := Aside0.mk (below_step (by repeat (first | (with_reducible first | exact HB.out | apply below_alloc | apply pw_below_drewN | apply below_drew1) | exact HB.out)) hb)
      clear HB
      have HO132 := n0_
      have HB := n1_
      clear n0_ n1_
      clear hb ho7
      refine hK.out _ _ trivial (fun hHeld => ?_)
      clear hK K
      refine norm_ (a' := ?_) ?_ ?_
      rotate_left
      ·show Act.put _ (some 14) _ = _
       simp only [Act.put, List.setIfInBounds_toArray, List.set_cons_zero, List.set_cons_succ, i64_w, i32_w]
       rfl
      refine one_ (i := 2) (N := some 11) #[true, true, true, true, true, true, false, false] rfl rfl (one_of HT_.out (by kernel_rfl)) (by decide) (fun K hK => ?_)
      refine Kd.R_make_step (Kd.int .i64) _ 3 (by rfl) (N := 11) rfl 42 _ _ rfl (l0.length : Int) rfl rfl Try.underlying42 (.int .i64 0) 8 info3 rfl (by decide) (by omega) 0 (ok := fun _ => True) (okp := fun _ => True) rfl (fun _ hk => hk) trivial (of_decide_eq_true (by first | (with_reducible assumption) | assumption)) (Nat.le_trans (Nat.mul_le_mul_right _ (of_decide_eq_true (by first | (with_reducible assumption) | assumption) : (l0.length : Int).toNat ≤ 35184372088832)) (by omega)) (Below.refl _ _) (Nat.le_refl _) ?_
      intro v128 w8 ho9 hb hg_ hnew_
      clear hg_ hnew_
      (first | rw [← Ny127.out] at ho9 | (simp only [Int.reduceToNat] at ho9; rw [← Ny127.out] at ho9))
      have n0_ := Aside0.mk (Kd.R_below (by (with_reducible repeat (first | apply Kd.R_alloc | apply Kd.R_drewN | apply Kd.R_drew)); exact HO132.out) hb)
      have n1_ := Aside0.mk (Kd.R_lower ho9 (below_size (by repeat (first | (with_reducible first | exact HB.out | apply below_alloc | apply pw_below_drewN | apply below_drew1) | exact HB.out))))
      have n2_ := Aside0.mk (below_step (by repeat (first | (with_reducible first | exact HB.out | apply below_alloc | apply pw_below_drewN | apply below_drew1) | exact HB.out)) hb)
      clear HO132
      clear HB
      have HO132 := n0_
      have HO129 := n1_
      have HB := n2_
      clear n0_ n1_ n2_
      clear hb ho9
      refine hK.out _ _ trivial (fun hHeld => ?_)
      clear hK K
      refine norm_ (a' := ?_) ?_ ?_
      rotate_left
      ·show Act.put _ (some 11) _ = _
       simp only [Act.put, List.setIfInBounds_toArray, List.set_cons_zero, List.set_cons_succ, i64_w, i32_w]
       rfl
      refine pure_ (i := 6) (N := some 4) (v := ?_) (a' := ?_) #[true, true, true, true, true, true, true, false] rfl rfl (any_of HT_.out (by kernel_rfl)) (fun _ _ _ h => h) (Or.inl ⟨by rfl, ?_⟩) ?_ ?_
      rotate_left
      ·intro w'
       go_simp
       with_reducible rfl
      rotate_left
      ·simp only [Act.put, List.setIfInBounds_toArray, List.set_cons_zero, List.set_cons_succ, i64_w, i32_w]
       rfl
      exact norm_ (by simp only [putAll, Act.put, List.setIfInBounds_toArray, List.set_cons_zero, List.set_cons_succ]) (hCont (v128, v131) _ ⟨(by (with_reducible repeat (first | apply Kd.R_alloc | apply Kd.R_drewN | apply Kd.R_drew)); exact HO129.out), (by (with_reducible repeat (first | apply Kd.R_alloc | apply Kd.R_drewN | apply Kd.R_drew)); exact HO132.out), (by repeat (first | (with_reducible first | exact HB.out | apply below_alloc | apply pw_below_drewN | apply below_drew1) | exact HB.out))⟩)
    rintro ⟨v128, v131⟩ w10 ⟨h0_, h1_, h2_⟩
    have n0_ : Aside0 (Kd.R (Kd.int .i64) 3 w10 w.heap.size (fun _ => True) v128 y127) := ⟨h0_⟩
    have n1_ : Aside0 (Kd.R Kd.bool 4 w10 w.heap.size (fun _ => True) v131 y130) := ⟨h1_⟩
    have n2_ : Aside0 (Below w.heap.size w w10) := ⟨h2_⟩
    clear HB
    clear h0_ h1_ h2_
    have HO129 := n0_
    have HO132 := n1_
    have HB := n2_
    clear n0_ n1_ n2_
    have hHeld := trivial
    refine norm_ (a' := ?_) ?_ ?_
    rotate_left
    ·simp only [putAll, Act.put, List.setIfInBounds_toArray, List.set_cons_zero, List.set_cons_succ]
     rfl
    refine pure_ (i := 7) (N := some 5) (v := ?_) (a' := ?_) #[true, true, true, true, true, true, true, true] rfl rfl (any_of HT_.out (by kernel_rfl)) (fun _ _ _ h => h) (Or.inl ⟨by rfl, ?_⟩) ?_ ?_
    rotate_left
    ·intro w'
     go_simp
     with_reducible rfl
    rotate_left
    ·simp only [Act.put, List.setIfInBounds_toArray, List.set_cons_zero, List.set_cons_succ, i64_w, i32_w]
     rfl
    refine done_ (done_of HT_.out (by kernel_rfl)) ?_
    try go_wp2
    go_loopg [17] k (fun kq v17 w' => ∃ (x4_1 : List Int) (x5_1 : List Bool) (x17_1 : Int), v17 = .int .i64 x17_1 ∧ Aside0 (breaks_classes.l0 kq x4_1 x5_1 l0 (l0.length : Int) x17_1 = some (r1, r2)) ∧ Aside0 (kq ≤ k) ∧ Aside0 (Kd.R (Kd.int .i64) 3 w' w.heap.size (fun _ => True) v128 x4_1) ∧ Aside0 (Kd.R Kd.bool 4 w' w.heap.size (fun _ => True) v131 x5_1) ∧ Aside0 (Below w.heap.size w w'))
    case atStart => exact ⟨(y127), (y130), (0), (by first | rfl | (simp; done) | (simp [*]; done)), H', ⟨Nat.le_refl _⟩, ⟨by (with_reducible repeat (first | apply Kd.R_alloc | apply Kd.R_drewN | apply Kd.R_drew)); exact HO129.out⟩, ⟨by (with_reducible repeat (first | apply Kd.R_alloc | apply Kd.R_drewN | apply Kd.R_drew)); exact HO132.out⟩, ⟨by repeat (first | (with_reducible first | exact HB.out | apply below_alloc | apply pw_below_drewN | apply below_drew1) | exact HB.out)⟩⟩
    case round =>
     clear H'
     try clear c2
     try clear c2b0
     try clear c2b1
     try clear p2
     try clear c3
     try clear c3b0
     try clear c3b1
     try clear c4
     try clear c4b0
     try clear c4b1
     obtain ⟨x4_1, x5_1, x17_1, rfl, HA, HK1, HO_4, HO_5, HB⟩ := hrel
     cases gk with
     | zero => exact absurd HA.out (by simp [breaks_classes.l0])
     | succ k1 =>
      have H := HA.out
      clear HA
      simp only [breaks_classes.l0] at H
      by_cases c11 : x17_1 < (l0.length : Int)
      ·rw [if_pos c11] at H
       have c11b0 : decide (x17_1 < (l0.length : Int)) = true := decide_eq_true c11
       clear c11
       by_cases c12 : 0 ≤ x17_1
       ·rw [if_pos c12] at H
        have c12b0 : decide (0 ≤ x17_1) = true := decide_eq_true c12
        clear c12
        by_cases c13 : x17_1 < (l0.length : Int)
        ·rw [if_pos c13] at H
         have c13b0 : decide (x17_1 < (l0.length : Int)) = true := decide_eq_true c13
         clear c13
         replace H := Option.bind_eq_some_iff.mp H
         obtain ⟨⟨t134, t135, t136⟩, A140, H⟩ := H
         replace H : (if t136 = 8 then (if x17_1 > 0 then (if 0 ≤ (wrap64 (x17_1 - 1)) then (if (wrap64 (x17_1 - 1)) < (x4_1.length : Int) then ((breaks_ends.f k1 (rd x4_1 (wrap64 (x17_1 - 1)))).bind fun t138 => (if t138 = true then (if x17_1 < (x4_1.length : Int) then (breaks_classes.l0 k1 (x4_1.set (x17_1 : Int).toNat 0) x5_1 l0 (l0.length : Int) (wrap64 (x17_1 + 1))) else (none)) else (if x17_1 < (x5_1.length : Int) then (if x17_1 < (x4_1.length : Int) then (breaks_classes.l0 k1 (x4_1.set (x17_1 : Int).toNat (rd x4_1 (wrap64 (x17_1 - 1)))) (x5_1.set (x17_1 : Int).toNat true) l0 (l0.length : Int) (wrap64 (x17_1 + 1))) else (none)) else (none)))) else (none)) else (none)) else (if x17_1 < (x4_1.length : Int) then (breaks_classes.l0 k1 (x4_1.set (x17_1 : Int).toNat 0) x5_1 l0 (l0.length : Int) (wrap64 (x17_1 + 1))) else (none))) else (if x17_1 < (x4_1.length : Int) then (breaks_classes.l0 k1 (x4_1.set (x17_1 : Int).toNat t136) x5_1 l0 (l0.length : Int) (wrap64 (x17_1 + 1))) else (none))) = some (r1, r2) := H
         have A14 := Aside0.mk A140
         clear A140
         by_cases c15 : t136 = 8
         ·rw [if_pos c15] at H
          have c15b0 : (t136 == 8) = true := beq_iff_eq.mpr c15
          have c15b1 : (t136 != 8) = false := bne_eq_false_iff_eq.mpr c15
          clear c15
          by_cases c16 : x17_1 > 0
          ·rw [if_pos c16] at H
           have c16b0 : decide (0 < x17_1) = true := decide_eq_true c16
           clear c16
           obtain ⟨ji17, hji17⟩ : ∃ j_ : Int, (wrap64 (x17_1 - 1)) = j_ := ⟨_, rfl⟩
           replace H : (if 0 ≤ (ji17) then (if (ji17) < (x4_1.length : Int) then ((breaks_ends.f k1 (rd x4_1 (ji17))).bind fun t138 => (if t138 = true then (if x17_1 < (x4_1.length : Int) then (breaks_classes.l0 k1 (x4_1.set (x17_1 : Int).toNat 0) x5_1 l0 (l0.length : Int) (wrap64 (x17_1 + 1))) else (none)) else (if x17_1 < (x5_1.length : Int) then (if x17_1 < (x4_1.length : Int) then (breaks_classes.l0 k1 (x4_1.set (x17_1 : Int).toNat (rd x4_1 (ji17))) (x5_1.set (x17_1 : Int).toNat true) l0 (l0.length : Int) (wrap64 (x17_1 + 1))) else (none)) else (none)))) else (none)) else (none)) = some (r1, r2) := by first | (rw [hji17] at H; exact H) | (simp only [hji17] at H ⊢; exact H)
           (try rw [hji17] at A14)
           have hji17w : (IntKind.i64.wrap (x17_1 - 1)) = ji17 := (i64_w _).trans hji17
           by_cases c18 : 0 ≤ (ji17)
           ·rw [if_pos c18] at H
            have c18b0 : decide (0 ≤ (ji17)) = true := decide_eq_true c18
            clear c18
            by_cases c19 : (ji17) < (x4_1.length : Int)
            ·rw [if_pos c19] at H
             have c19b0 : decide ((ji17) < (x4_1.length : Int)) = true := decide_eq_true c19
             clear c19
             replace H := Option.bind_eq_some_iff.mp H
             obtain ⟨t138, A200, H⟩ := H
             replace H : (if t138 = true then (if x17_1 < (x4_1.length : Int) then (breaks_classes.l0 k1 (x4_1.set (x17_1 : Int).toNat 0) x5_1 l0 (l0.length : Int) (wrap64 (x17_1 + 1))) else (none)) else (if x17_1 < (x5_1.length : Int) then (if x17_1 < (x4_1.length : Int) then (breaks_classes.l0 k1 (x4_1.set (x17_1 : Int).toNat (rd x4_1 (ji17))) (x5_1.set (x17_1 : Int).toNat true) l0 (l0.length : Int) (wrap64 (x17_1 + 1))) else (none)) else (none))) = some (r1, r2) := H
             have A20 := Aside0.mk A200
             clear A200
             by_cases c21 : t138 = true
             ·subst c21
              have H1 : (if x17_1 < (x4_1.length : Int) then (breaks_classes.l0 k1 (x4_1.set (x17_1 : Int).toNat 0) x5_1 l0 (l0.length : Int) (wrap64 (x17_1 + 1))) else (none)) = some (r1, r2) := by rw [if_pos rfl] at H; exact H
              clear H
              have H := H1
              clear H1
              by_cases c22 : x17_1 < (x4_1.length : Int)
              ·rw [if_pos c22] at H
               have c22b0 : decide (x17_1 < (x4_1.length : Int)) = true := decide_eq_true c22
               clear c22
               obtain ⟨y139, hy139⟩ : ∃ y_ : List Int, y_ = (x4_1.set (x17_1 : Int).toNat 0) := ⟨_, rfl⟩
               replace H : (breaks_classes.l0 k1 y139 x5_1 l0 (l0.length : Int) (wrap64 (x17_1 + 1))) = some (r1, r2) := by first | (rw [hy139]; with_reducible exact H) | (have H2_ := (Option.bind_some _ _).symm.trans H; rw [hy139]; with_reducible exact H2_) | (have H2_ := (Option.bind_some _ _).symm.trans H; with_reducible exact H2_) | with_reducible exact H | (rw [hy139]; exact H) | exact H
               have Ny139 := Aside0.mk hy139
               clear hy139
               have H' := Aside0.mk H
               clear H
               have p133 : 0 ≤ (x17_1 : Int) := of_decide_eq_true (by first | (with_reducible assumption) | assumption)
               have q133 : x17_1 < (l0.length : Int) := of_decide_eq_true (by first | (with_reducible assumption) | assumption)
               obtain ⟨ad133, e133, hx133_0⟩ := Kd.at_int HR0.out x17_1 p133 q133
               cases e133
               replace hx133_0 := (HB.out.cell (World.block_lt_of_cell? w _ hx133_0)).trans hx133_0
               replace p133 := eq_true p133
               replace q133 := eq_true q133
               go_wp2_with (first | ((with_reducible refine gate_callee (f := 24) rfl ?_); refine goesL_ (some 23) rfl rfl Try.func24 (by kernel_rfl) rfl #[.int .i64 (rd l0 x17_1)] rfl (by (try simp only [List.map_toArray, List.map_cons, List.map_nil]); first | done | rfl | (simp only [List.length_drop, List.length_take]; rfl)) ?_; (with_reducible refine (ucd_Look.calls (rd l0 x17_1) t134 t135 t136 _ A14.out).mono ?_); rintro e w24 ⟨rfl, hb⟩; refine ⟨_, rfl, ?_⟩; have n0_ := Aside0.mk (Kd.R_below (by (with_reducible repeat (first | apply Kd.R_alloc | apply Kd.R_drewN | apply Kd.R_drew)); exact HO_4.out) hb); have n1_ := Aside0.mk (Kd.R_below (by (with_reducible repeat (first | apply Kd.R_alloc | apply Kd.R_drewN | apply Kd.R_drew)); exact HO_5.out) hb); have n2_ := Aside0.mk (below_step (by repeat (first | (with_reducible first | exact HB.out | apply below_alloc | apply pw_below_drewN | apply below_drew1) | exact HB.out)) hb); clear HO_4; clear HO_5; clear HB; have HO_4 := n0_; have HO_5 := n1_; have HB := n2_; clear n0_ n1_ n2_; (try clear hb); (try clear hb2); (try clear hk); (try clear hi); obtain ⟨Ao25, co25, eo25⟩ := Kd.R_slice HO_4.out; subst eo25; have p137 : 0 ≤ ((ji17) : Int) := of_decide_eq_true (by first | (with_reducible assumption) | assumption); have q137 : (ji17) < (x4_1.length : Int) := of_decide_eq_true (by first | (with_reducible assumption) | assumption); obtain ⟨ad137, e137, hx137_0⟩ := Kd.at_int (Kd.R_reads' HO_4.out).2.2 (ji17) p137 q137; cases e137; replace p137 := eq_true p137; replace q137 := eq_true q137) | (go_at_call 59; (with_reducible refine (breaks_ends.calls k1 (rd x4_1 (ji17)) true _ A20.out).mono ?_); rintro e w26 ⟨rfl, hb⟩; have n0_ := Aside0.mk (Kd.R_below (by (with_reducible repeat (first | apply Kd.R_alloc | apply Kd.R_drewN | apply Kd.R_drew)); exact HO_4.out) hb); have n1_ := Aside0.mk (Kd.R_below (by (with_reducible repeat (first | apply Kd.R_alloc | apply Kd.R_drewN | apply Kd.R_drew)); exact HO_5.out) hb); have n2_ := Aside0.mk (below_step (by repeat (first | (with_reducible first | exact HB.out | apply below_alloc | apply pw_below_drewN | apply below_drew1) | exact HB.out)) hb); clear HO_4; clear HO_5; clear HB; have HO_4 := n0_; have HO_5 := n1_; have HB := n2_; clear n0_ n1_ n2_; (try clear hb); (try clear hb2); (try clear hk); (try clear hi); have p23 : 0 ≤ (x17_1 : Int) := of_decide_eq_true (by first | (with_reducible assumption) | assumption); have q23 : (x17_1 : Int) < ((x4_1.length : Int) : Int) := of_decide_eq_true (by first | (with_reducible assumption) | assumption); obtain ⟨go23, co23, eo23, gb23, gl23, cl23, HG23⟩ := Kd.R_form HO_4.out (by omega); (first | cases eo23 | (injection eo23 with ea_ en_ ec_; (first | subst ea_ | (injection ea_ with ea_; subst ea_)); subst ec_; clear en_)); have GB23 := Aside0.mk gb23; have GG23 := Aside0.mk HG23; clear gb23 gl23 HG23; (first | simp only [add_plain] at hx137_0 | skip); obtain ⟨hx23_0, hf23_0⟩ := Kd.R_celln 0 HO_4.out (x17_1 : Int) p23 q23; replace p23 := eq_true p23; replace q23 := eq_true q23; obtain ⟨hy27_, hz27_⟩ := Kd.R_celln 0 HO_4.out (x17_1 : Int) (of_decide_eq_true (by first | (with_reducible assumption) | assumption)) (of_decide_eq_true (by first | (with_reducible assumption) | assumption)); have HP27 := Kd.R_putg HO_4.out (x17_1 : Int) 0) | ((with_reducible refine gate_store (t := 3) (p := 49) rfl ?_); refine store_event (t := 3) (p := 49) (v := ?vo_w28) (w1 := (w26.setCell ⟨go23, (x17_1 : Int).toNat, none⟩ (.int .i64 0))) ?hg ?ho ?hn ?hr ?_; (case ho => rfl); (case hg => rfl); (case hn => rfl); (case hr => first | (go_simp; done) | (go_simp; rfl)); intro w28 hw; have hg : w26.grownBy w28 (some go23) := (by rw [hw]; exact HP27.2); have hp_ : Kd.R (Kd.int .i64) 3 w28 w.heap.size (fun _ => True) (.slice (some ⟨go23, 0, none⟩) x4_1.length co25) y139 := (by rw [hw, Ny139.out]; exact HP27.1); clear HP27; have n0_ := Aside0.mk (hp_); have n1_ := Aside0.mk (Kd.R_over' (v := (.slice (some ⟨go23, 0, none⟩) x4_1.length co25)) (by (with_reducible repeat (first | apply Kd.R_alloc | apply Kd.R_drewN | apply Kd.R_drew)); exact HO_5.out) (Kd.R_typed HO_4.out) (by decide) hg); have n2_ := Aside0.mk ((by rw [hw]; exact below_set (HB.out) GB23.out : Below w.heap.size w w28)); clear HO_4; clear HO_5; clear HB; have HO_4 := n0_; have HO_5 := n1_; have HB := n2_; clear n0_ n1_ n2_; clear hg hw hp_))
               go_roundg k1
               case measure => have := HK1.out; omega
               case rel => exact ⟨(y139), (x5_1), (wrap64 (x17_1 + 1)), (by first | rfl | (simp; done) | (simp [*]; done)), H', ⟨by have := HK1.out; omega⟩, ⟨by (with_reducible repeat (first | apply Kd.R_alloc | apply Kd.R_drewN | apply Kd.R_drew)); exact HO_4.out⟩, ⟨by (with_reducible repeat (first | apply Kd.R_alloc | apply Kd.R_drewN | apply Kd.R_drew)); exact HO_5.out⟩, ⟨by repeat (first | (with_reducible first | exact HB.out | apply below_alloc | apply pw_below_drewN | apply below_drew1) | exact HB.out)⟩⟩
              ·rw [if_neg c22] at H
               exact absurd H (by simp)
             ·replace c21 := Bool.eq_false_iff.mpr c21
              subst c21
              have H1 : (if x17_1 < (x5_1.length : Int) then (if x17_1 < (x4_1.length : Int) then (breaks_classes.l0 k1 (x4_1.set (x17_1 : Int).toNat (rd x4_1 (ji17))) (x5_1.set (x17_1 : Int).toNat true) l0 (l0.length : Int) (wrap64 (x17_1 + 1))) else (none)) else (none)) = some (r1, r2) := by rw [if_neg (show ¬ (false = true) by decide)] at H; exact H
              clear H
              have H := H1
              clear H1
              by_cases c29 : x17_1 < (x5_1.length : Int)
              ·rw [if_pos c29] at H
               have c29b0 : decide (x17_1 < (x5_1.length : Int)) = true := decide_eq_true c29
               clear c29
               obtain ⟨y141, hy141⟩ : ∃ y_ : List Bool, y_ = (x5_1.set (x17_1 : Int).toNat true) := ⟨_, rfl⟩
               replace H : (if x17_1 < (x4_1.length : Int) then (breaks_classes.l0 k1 (x4_1.set (x17_1 : Int).toNat (rd x4_1 (ji17))) y141 l0 (l0.length : Int) (wrap64 (x17_1 + 1))) else (none)) = some (r1, r2) := by first | (rw [hy141]; with_reducible exact H) | (have H2_ := (Option.bind_some _ _).symm.trans H; rw [hy141]; with_reducible exact H2_) | (have H2_ := (Option.bind_some _ _).symm.trans H; with_reducible exact H2_) | with_reducible exact H | (rw [hy141]; exact H) | exact H
               have Ny141 := Aside0.mk hy141
               clear hy141
               by_cases c31 : x17_1 < (x4_1.length : Int)
               ·rw [if_pos c31] at H
                have c31b0 : decide (x17_1 < (x4_1.length : Int)) = true := decide_eq_true c31
                clear c31
                obtain ⟨y142, hy142⟩ : ∃ y_ : List Int, y_ = (x4_1.set (x17_1 : Int).toNat (rd x4_1 (ji17))) := ⟨_, rfl⟩
                replace H : (breaks_classes.l0 k1 y142 y141 l0 (l0.length : Int) (wrap64 (x17_1 + 1))) = some (r1, r2) := by first | (rw [hy142]; with_reducible exact H) | (have H2_ := (Option.bind_some _ _).symm.trans H; rw [hy142]; with_reducible exact H2_) | (have H2_ := (Option.bind_some _ _).symm.trans H; with_reducible exact H2_) | with_reducible exact H | (rw [hy142]; exact H) | exact H
                have Ny142 := Aside0.mk hy142
                clear hy142
                have H' := Aside0.mk H
                clear H
                have p133 : 0 ≤ (x17_1 : Int) := of_decide_eq_true (by first | (with_reducible assumption) | assumption)
                have q133 : x17_1 < (l0.length : Int) := of_decide_eq_true (by first | (with_reducible assumption) | assumption)
                obtain ⟨ad133, e133, hx133_0⟩ := Kd.at_int HR0.out x17_1 p133 q133
                cases e133
                replace hx133_0 := (HB.out.cell (World.block_lt_of_cell? w _ hx133_0)).trans hx133_0
                replace p133 := eq_true p133
                replace q133 := eq_true q133
                go_wp2_with (first | ((with_reducible refine gate_callee (f := 24) rfl ?_); refine goesL_ (some 23) rfl rfl Try.func24 (by kernel_rfl) rfl #[.int .i64 (rd l0 x17_1)] rfl (by (try simp only [List.map_toArray, List.map_cons, List.map_nil]); first | done | rfl | (simp only [List.length_drop, List.length_take]; rfl)) ?_; (with_reducible refine (ucd_Look.calls (rd l0 x17_1) t134 t135 t136 _ A14.out).mono ?_); rintro e w33 ⟨rfl, hb⟩; refine ⟨_, rfl, ?_⟩; have n0_ := Aside0.mk (Kd.R_below (by (with_reducible repeat (first | apply Kd.R_alloc | apply Kd.R_drewN | apply Kd.R_drew)); exact HO_4.out) hb); have n1_ := Aside0.mk (Kd.R_below (by (with_reducible repeat (first | apply Kd.R_alloc | apply Kd.R_drewN | apply Kd.R_drew)); exact HO_5.out) hb); have n2_ := Aside0.mk (below_step (by repeat (first | (with_reducible first | exact HB.out | apply below_alloc | apply pw_below_drewN | apply below_drew1) | exact HB.out)) hb); clear HO_4; clear HO_5; clear HB; have HO_4 := n0_; have HO_5 := n1_; have HB := n2_; clear n0_ n1_ n2_; (try clear hb); (try clear hb2); (try clear hk); (try clear hi); obtain ⟨Ao34, co34, eo34⟩ := Kd.R_slice HO_4.out; subst eo34; have p137 : 0 ≤ ((ji17) : Int) := of_decide_eq_true (by first | (with_reducible assumption) | assumption); have q137 : (ji17) < (x4_1.length : Int) := of_decide_eq_true (by first | (with_reducible assumption) | assumption); obtain ⟨ad137, e137, hx137_0⟩ := Kd.at_int (Kd.R_reads' HO_4.out).2.2 (ji17) p137 q137; cases e137; replace p137 := eq_true p137; replace q137 := eq_true q137) | (go_at_call 59; (with_reducible refine (breaks_ends.calls k1 (rd x4_1 (ji17)) false _ A20.out).mono ?_); rintro e w35 ⟨rfl, hb⟩; have n0_ := Aside0.mk (Kd.R_below (by (with_reducible repeat (first | apply Kd.R_alloc | apply Kd.R_drewN | apply Kd.R_drew)); exact HO_4.out) hb); have n1_ := Aside0.mk (Kd.R_below (by (with_reducible repeat (first | apply Kd.R_alloc | apply Kd.R_drewN | apply Kd.R_drew)); exact HO_5.out) hb); have n2_ := Aside0.mk (below_step (by repeat (first | (with_reducible first | exact HB.out | apply below_alloc | apply pw_below_drewN | apply below_drew1) | exact HB.out)) hb); clear HO_4; clear HO_5; clear HB; have HO_4 := n0_; have HO_5 := n1_; have HB := n2_; clear n0_ n1_ n2_; (try clear hb); (try clear hb2); (try clear hk); (try clear hi); have p140 : 0 ≤ ((ji17) : Int) := of_decide_eq_true (by first | (with_reducible assumption) | assumption); have q140 : (ji17) < (x4_1.length : Int) := of_decide_eq_true (by first | (with_reducible assumption) | assumption); obtain ⟨ad140, e140, hx140_0⟩ := Kd.at_int (Kd.R_reads' HO_4.out).2.2 (ji17) p140 q140; obtain rfl : ad137 = ad140 := (by injection e140); replace p140 := eq_true p140; replace q140 := eq_true q140; have p30 : 0 ≤ (x17_1 : Int) := of_decide_eq_true (by first | (with_reducible assumption) | assumption); have q30 : (x17_1 : Int) < ((x5_1.length : Int) : Int) := of_decide_eq_true (by first | (with_reducible assumption) | assumption); obtain ⟨go30, co30, eo30, gb30, gl30, cl30, HG30⟩ := Kd.R_form HO_5.out (by omega); (first | cases eo30 | (injection eo30 with ea_ en_ ec_; (first | subst ea_ | (injection ea_ with ea_; subst ea_)); subst ec_; clear en_)); have GB30 := Aside0.mk gb30; have GG30 := Aside0.mk HG30; clear gb30 gl30 HG30; obtain ⟨hx30_0, hf30_0⟩ := Kd.R_celln false HO_5.out (x17_1 : Int) p30 q30; replace p30 := eq_true p30; replace q30 := eq_true q30; obtain ⟨hy36_, hz36_⟩ := Kd.R_celln false HO_5.out (x17_1 : Int) (of_decide_eq_true (by first | (with_reducible assumption) | assumption)) (of_decide_eq_true (by first | (with_reducible assumption) | assumption)); have HP36 := Kd.R_putg HO_5.out (x17_1 : Int) true) | ((with_reducible refine gate_store (t := 4) (p := 45) rfl ?_); refine store_event (t := 4) (p := 45) (v := ?vo_w37) (w1 := (w35.setCell ⟨go30, (x17_1 : Int).toNat, none⟩ (.bool true))) ?hg ?ho ?hn ?hr ?_; (case ho => rfl); (case hg => rfl); (case hn => rfl); (case hr => first | (go_simp; done) | (go_simp; rfl)); intro w37 hw; have hg : w35.grownBy w37 (some go30) := (by rw [hw]; exact HP36.2); have hp_ : Kd.R Kd.bool 4 w37 w.heap.size (fun _ => True) (.slice (some ⟨go30, 0, none⟩) x5_1.length co30) y141 := (by rw [hw, Ny141.out]; exact HP36.1); clear HP36; have n0_ := Aside0.mk (Kd.R_over' (v := (.slice (some ⟨go30, 0, none⟩) x5_1.length co30)) (by (with_reducible repeat (first | apply Kd.R_alloc | apply Kd.R_drewN | apply Kd.R_drew)); exact HO_4.out) (Kd.R_typed HO_5.out) (by decide) hg); have n1_ := Aside0.mk (hp_); have n2_ := Aside0.mk ((by rw [hw]; exact below_set (HB.out) GB30.out : Below w.heap.size w w37)); clear HO_4; clear HO_5; clear HB; have HO_4 := n0_; have HO_5 := n1_; have HB := n2_; clear n0_ n1_ n2_; clear hg hw hp_; have p32 : 0 ≤ (x17_1 : Int) := of_decide_eq_true (by first | (with_reducible assumption) | assumption); have q32 : (x17_1 : Int) < ((x4_1.length : Int) : Int) := of_decide_eq_true (by first | (with_reducible assumption) | assumption); obtain ⟨go32, co32, eo32, gb32, gl32, cl32, HG32⟩ := Kd.R_form HO_4.out (by omega); (first | cases eo32 | (injection eo32 with ea_ en_ ec_; (first | subst ea_ | (injection ea_ with ea_; subst ea_)); subst ec_; clear en_)); have GB32 := Aside0.mk gb32; have GG32 := Aside0.mk HG32; clear gb32 gl32 HG32; (first | simp only [add_plain] at hx137_0 | skip); (first | simp only [add_plain] at hx140_0 | skip); obtain ⟨hx32_0, hf32_0⟩ := Kd.R_celln 0 HO_4.out (x17_1 : Int) p32 q32; replace p32 := eq_true p32; replace q32 := eq_true q32; obtain ⟨hy38_, hz38_⟩ := Kd.R_celln 0 HO_4.out (x17_1 : Int) (of_decide_eq_true (by first | (with_reducible assumption) | assumption)) (of_decide_eq_true (by first | (with_reducible assumption) | assumption)); have HP38 := Kd.R_putg HO_4.out (x17_1 : Int) (rd x4_1 (ji17))) | ((with_reducible refine gate_store (t := 3) (p := 49) rfl ?_); refine store_event (t := 3) (p := 49) (v := ?vo_w39) (w1 := (w37.setCell ⟨go32, (x17_1 : Int).toNat, none⟩ (.int .i64 (rd x4_1 (ji17))))) ?hg ?ho ?hn ?hr ?_; (case ho => rfl); (case hg => rfl); (case hn => rfl); (case hr => first | (go_simp; done) | (go_simp; rfl)); intro w39 hw; have hg : w37.grownBy w39 (some go32) := (by rw [hw]; exact HP38.2); have hp_ : Kd.R (Kd.int .i64) 3 w39 w.heap.size (fun _ => True) (.slice (some ⟨go32, 0, none⟩) x4_1.length co34) y142 := (by rw [hw, Ny142.out]; exact HP38.1); clear HP38; have n0_ := Aside0.mk (hp_); have n1_ := Aside0.mk (Kd.R_over' (v := (.slice (some ⟨go32, 0, none⟩) x4_1.length co34)) (by (with_reducible repeat (first | apply Kd.R_alloc | apply Kd.R_drewN | apply Kd.R_drew)); exact HO_5.out) (Kd.R_typed HO_4.out) (by decide) hg); have n2_ := Aside0.mk ((by rw [hw]; exact below_set (HB.out) GB32.out : Below w.heap.size w w39)); clear HO_4; clear HO_5; clear HB; have HO_4 := n0_; have HO_5 := n1_; have HB := n2_; clear n0_ n1_ n2_; clear hg hw hp_))
                go_roundg k1
                case measure => have := HK1.out; omega
                case rel => exact ⟨(y142), (y141), (wrap64 (x17_1 + 1)), (by first | rfl | (simp; done) | (simp [*]; done)), H', ⟨by have := HK1.out; omega⟩, ⟨by (with_reducible repeat (first | apply Kd.R_alloc | apply Kd.R_drewN | apply Kd.R_drew)); exact HO_4.out⟩, ⟨by (with_reducible repeat (first | apply Kd.R_alloc | apply Kd.R_drewN | apply Kd.R_drew)); exact HO_5.out⟩, ⟨by repeat (first | (with_reducible first | exact HB.out | apply below_alloc | apply pw_below_drewN | apply below_drew1) | exact HB.out)⟩⟩
               ·rw [if_neg c31] at H
                exact absurd H (by simp)
              ·rw [if_neg c29] at H
               exact absurd H (by simp)
            ·rw [if_neg c19] at H
             exact absurd H (by simp)
           ·rw [if_neg c18] at H
            exact absurd H (by simp)
          ·rw [if_neg c16] at H
           have c16b0 : decide (0 < x17_1) = false := decide_eq_false c16
           clear c16
           by_cases c40 : x17_1 < (x4_1.length : Int)
           ·rw [if_pos c40] at H
            have c40b0 : decide (x17_1 < (x4_1.length : Int)) = true := decide_eq_true c40
            clear c40
            obtain ⟨y143, hy143⟩ : ∃ y_ : List Int, y_ = (x4_1.set (x17_1 : Int).toNat 0) := ⟨_, rfl⟩
            replace H : (breaks_classes.l0 k1 y143 x5_1 l0 (l0.length : Int) (wrap64 (x17_1 + 1))) = some (r1, r2) := by first | (rw [hy143]; with_reducible exact H) | (have H2_ := (Option.bind_some _ _).symm.trans H; rw [hy143]; with_reducible exact H2_) | (have H2_ := (Option.bind_some _ _).symm.trans H; with_reducible exact H2_) | with_reducible exact H | (rw [hy143]; exact H) | exact H
            have Ny143 := Aside0.mk hy143
            clear hy143
            have H' := Aside0.mk H
            clear H
            have p133 : 0 ≤ (x17_1 : Int) := of_decide_eq_true (by first | (with_reducible assumption) | assumption)
            have q133 : x17_1 < (l0.length : Int) := of_decide_eq_true (by first | (with_reducible assumption) | assumption)
            obtain ⟨ad133, e133, hx133_0⟩ := Kd.at_int HR0.out x17_1 p133 q133
            cases e133
            replace hx133_0 := (HB.out.cell (World.block_lt_of_cell? w _ hx133_0)).trans hx133_0
            replace p133 := eq_true p133
            replace q133 := eq_true q133
            go_wp2_with (first | ((with_reducible refine gate_callee (f := 24) rfl ?_); refine goesL_ (some 23) rfl rfl Try.func24 (by kernel_rfl) rfl #[.int .i64 (rd l0 x17_1)] rfl (by (try simp only [List.map_toArray, List.map_cons, List.map_nil]); first | done | rfl | (simp only [List.length_drop, List.length_take]; rfl)) ?_; (with_reducible refine (ucd_Look.calls (rd l0 x17_1) t134 t135 t136 _ A14.out).mono ?_); rintro e w42 ⟨rfl, hb⟩; refine ⟨_, rfl, ?_⟩; have n0_ := Aside0.mk (Kd.R_below (by (with_reducible repeat (first | apply Kd.R_alloc | apply Kd.R_drewN | apply Kd.R_drew)); exact HO_4.out) hb); have n1_ := Aside0.mk (Kd.R_below (by (with_reducible repeat (first | apply Kd.R_alloc | apply Kd.R_drewN | apply Kd.R_drew)); exact HO_5.out) hb); have n2_ := Aside0.mk (below_step (by repeat (first | (with_reducible first | exact HB.out | apply below_alloc | apply pw_below_drewN | apply below_drew1) | exact HB.out)) hb); clear HO_4; clear HO_5; clear HB; have HO_4 := n0_; have HO_5 := n1_; have HB := n2_; clear n0_ n1_ n2_; (try clear hb); (try clear hb2); (try clear hk); (try clear hi); have p41 : 0 ≤ (x17_1 : Int) := of_decide_eq_true (by first | (with_reducible assumption) | assumption); have q41 : (x17_1 : Int) < ((x4_1.length : Int) : Int) := of_decide_eq_true (by first | (with_reducible assumption) | assumption); obtain ⟨go41, co41, eo41, gb41, gl41, cl41, HG41⟩ := Kd.R_form HO_4.out (by omega); (first | cases eo41 | (injection eo41 with ea_ en_ ec_; (first | subst ea_ | (injection ea_ with ea_; subst ea_)); subst ec_; clear en_)); have GB41 := Aside0.mk gb41; have GG41 := Aside0.mk HG41; clear gb41 gl41 HG41; obtain ⟨hx41_0, hf41_0⟩ := Kd.R_celln 0 HO_4.out (x17_1 : Int) p41 q41; replace p41 := eq_true p41; replace q41 := eq_true q41; obtain ⟨hy43_, hz43_⟩ := Kd.R_celln 0 HO_4.out (x17_1 : Int) (of_decide_eq_true (by first | (with_reducible assumption) | assumption)) (of_decide_eq_true (by first | (with_reducible assumption) | assumption)); have HP43 := Kd.R_putg HO_4.out (x17_1 : Int) 0) | ((with_reducible refine gate_store (t := 3) (p := 49) rfl ?_); refine store_event (t := 3) (p := 49) (v := ?vo_w44) (w1 := (w42.setCell ⟨go41, (x17_1 : Int).toNat, none⟩ (.int .i64 0))) ?hg ?ho ?hn ?hr ?_; (case ho => rfl); (case hg => rfl); (case hn => rfl); (case hr => first | (go_simp; done) | (go_simp; rfl)); intro w44 hw; have hg : w42.grownBy w44 (some go41) := (by rw [hw]; exact HP43.2); have hp_ : Kd.R (Kd.int .i64) 3 w44 w.heap.size (fun _ => True) (.slice (some ⟨go41, 0, none⟩) x4_1.length co41) y143 := (by rw [hw, Ny143.out]; exact HP43.1); clear HP43; have n0_ := Aside0.mk (hp_); have n1_ := Aside0.mk (Kd.R_over' (v := (.slice (some ⟨go41, 0, none⟩) x4_1.length co41)) (by (with_reducible repeat (first | apply Kd.R_alloc | apply Kd.R_drewN | apply Kd.R_drew)); exact HO_5.out) (Kd.R_typed HO_4.out) (by decide) hg); have n2_ := Aside0.mk ((by rw [hw]; exact below_set (HB.out) GB41.out : Below w.heap.size w w44)); clear HO_4; clear HO_5; clear HB; have HO_4 := n0_; have HO_5 := n1_; have HB := n2_; clear n0_ n1_ n2_; clear hg hw hp_))
            go_roundg k1
            case measure => have := HK1.out; omega
            case rel => exact ⟨(y143), (x5_1), (wrap64 (x17_1 + 1)), (by first | rfl | (simp; done) | (simp [*]; done)), H', ⟨by have := HK1.out; omega⟩, ⟨by (with_reducible repeat (first | apply Kd.R_alloc | apply Kd.R_drewN | apply Kd.R_drew)); exact HO_4.out⟩, ⟨by (with_reducible repeat (first | apply Kd.R_alloc | apply Kd.R_drewN | apply Kd.R_drew)); exact HO_5.out⟩, ⟨by repeat (first | (with_reducible first | exact HB.out | apply below_alloc | apply pw_below_drewN | apply below_drew1) | exact HB.out)⟩⟩
           ·rw [if_neg c40] at H
            exact absurd H (by simp)
         ·rw [if_neg c15] at H
          have c15b0 : (t136 == 8) = false := beq_eq_false_iff_ne.mpr c15
          have c15b1 : (t136 != 8) = true := bne_iff_ne.mpr c15
          by_cases c45 : x17_1 < (x4_1.length : Int)
          ·rw [if_pos c45] at H
           have c45b0 : decide (x17_1 < (x4_1.length : Int)) = true := decide_eq_true c45
           clear c45
           obtain ⟨y144, hy144⟩ : ∃ y_ : List Int, y_ = (x4_1.set (x17_1 : Int).toNat t136) := ⟨_, rfl⟩
           replace H : (breaks_classes.l0 k1 y144 x5_1 l0 (l0.length : Int) (wrap64 (x17_1 + 1))) = some (r1, r2) := by first | (rw [hy144]; with_reducible exact H) | (have H2_ := (Option.bind_some _ _).symm.trans H; rw [hy144]; with_reducible exact H2_) | (have H2_ := (Option.bind_some _ _).symm.trans H; with_reducible exact H2_) | with_reducible exact H | (rw [hy144]; exact H) | exact H
           have Ny144 := Aside0.mk hy144
           clear hy144
           have H' := Aside0.mk H
           clear H
           have p133 : 0 ≤ (x17_1 : Int) := of_decide_eq_true (by first | (with_reducible assumption) | assumption)
           have q133 : x17_1 < (l0.length : Int) := of_decide_eq_true (by first | (with_reducible assumption) | assumption)
           obtain ⟨ad133, e133, hx133_0⟩ := Kd.at_int HR0.out x17_1 p133 q133
           cases e133
           replace hx133_0 := (HB.out.cell (World.block_lt_of_cell? w _ hx133_0)).trans hx133_0
           replace p133 := eq_true p133
           replace q133 := eq_true q133
           go_wp2_with (first | ((with_reducible refine gate_callee (f := 24) rfl ?_); refine goesL_ (some 23) rfl rfl Try.func24 (by kernel_rfl) rfl #[.int .i64 (rd l0 x17_1)] rfl (by (try simp only [List.map_toArray, List.map_cons, List.map_nil]); first | done | rfl | (simp only [List.length_drop, List.length_take]; rfl)) ?_; (with_reducible refine (ucd_Look.calls (rd l0 x17_1) t134 t135 t136 _ A14.out).mono ?_); rintro e w47 ⟨rfl, hb⟩; refine ⟨_, rfl, ?_⟩; have n0_ := Aside0.mk (Kd.R_below (by (with_reducible repeat (first | apply Kd.R_alloc | apply Kd.R_drewN | apply Kd.R_drew)); exact HO_4.out) hb); have n1_ := Aside0.mk (Kd.R_below (by (with_reducible repeat (first | apply Kd.R_alloc | apply Kd.R_drewN | apply Kd.R_drew)); exact HO_5.out) hb); have n2_ := Aside0.mk (below_step (by repeat (first | (with_reducible first | exact HB.out | apply below_alloc | apply pw_below_drewN | apply below_drew1) | exact HB.out)) hb); clear HO_4; clear HO_5; clear HB; have HO_4 := n0_; have HO_5 := n1_; have HB := n2_; clear n0_ n1_ n2_; (try clear hb); (try clear hb2); (try clear hk); (try clear hi); have p46 : 0 ≤ (x17_1 : Int) := of_decide_eq_true (by first | (with_reducible assumption) | assumption); have q46 : (x17_1 : Int) < ((x4_1.length : Int) : Int) := of_decide_eq_true (by first | (with_reducible assumption) | assumption); obtain ⟨go46, co46, eo46, gb46, gl46, cl46, HG46⟩ := Kd.R_form HO_4.out (by omega); (first | cases eo46 | (injection eo46 with ea_ en_ ec_; (first | subst ea_ | (injection ea_ with ea_; subst ea_)); subst ec_; clear en_)); have GB46 := Aside0.mk gb46; have GG46 := Aside0.mk HG46; clear gb46 gl46 HG46; obtain ⟨hx46_0, hf46_0⟩ := Kd.R_celln 0 HO_4.out (x17_1 : Int) p46 q46; replace p46 := eq_true p46; replace q46 := eq_true q46; obtain ⟨hy48_, hz48_⟩ := Kd.R_celln 0 HO_4.out (x17_1 : Int) (of_decide_eq_true (by first | (with_reducible assumption) | assumption)) (of_decide_eq_true (by first | (with_reducible assumption) | assumption)); have HP48 := Kd.R_putg HO_4.out (x17_1 : Int) t136) | ((with_reducible refine gate_store (t := 3) (p := 49) rfl ?_); refine store_event (t := 3) (p := 49) (v := ?vo_w49) (w1 := (w47.setCell ⟨go46, (x17_1 : Int).toNat, none⟩ (.int .i64 t136))) ?hg ?ho ?hn ?hr ?_; (case ho => rfl); (case hg => rfl); (case hn => rfl); (case hr => first | (go_simp; done) | (go_simp; rfl)); intro w49 hw; have hg : w47.grownBy w49 (some go46) := (by rw [hw]; exact HP48.2); have hp_ : Kd.R (Kd.int .i64) 3 w49 w.heap.size (fun _ => True) (.slice (some ⟨go46, 0, none⟩) x4_1.length co46) y144 := (by rw [hw, Ny144.out]; exact HP48.1); clear HP48; have n0_ := Aside0.mk (hp_); have n1_ := Aside0.mk (Kd.R_over' (v := (.slice (some ⟨go46, 0, none⟩) x4_1.length co46)) (by (with_reducible repeat (first | apply Kd.R_alloc | apply Kd.R_drewN | apply Kd.R_drew)); exact HO_5.out) (Kd.R_typed HO_4.out) (by decide) hg); have n2_ := Aside0.mk ((by rw [hw]; exact below_set (HB.out) GB46.out : Below w.heap.size w w49)); clear HO_4; clear HO_5; clear HB; have HO_4 := n0_; have HO_5 := n1_; have HB := n2_; clear n0_ n1_ n2_; clear hg hw hp_))
           go_roundg k1
           case measure => have := HK1.out; omega
           case rel => exact ⟨(y144), (x5_1), (wrap64 (x17_1 + 1)), (by first | rfl | (simp; done) | (simp [*]; done)), H', ⟨by have := HK1.out; omega⟩, ⟨by (with_reducible repeat (first | apply Kd.R_alloc | apply Kd.R_drewN | apply Kd.R_drew)); exact HO_4.out⟩, ⟨by (with_reducible repeat (first | apply Kd.R_alloc | apply Kd.R_drewN | apply Kd.R_drew)); exact HO_5.out⟩, ⟨by repeat (first | (with_reducible first | exact HB.out | apply below_alloc | apply pw_below_drewN | apply below_drew1) | exact HB.out)⟩⟩
          ·rw [if_neg c45] at H
           exact absurd H (by simp)
        ·rw [if_neg c13] at H
         exact absurd H (by simp)
       ·rw [if_neg c12] at H
        exact absurd H (by simp)
      ·rw [if_neg c11] at H
       have c11b0 : decide (x17_1 < (l0.length : Int)) = false := decide_eq_false c11
       clear c11
       simp only [Option.some.injEq, Prod.mk.injEq] at H
       obtain ⟨rfl, rfl⟩ := H
       go_wp2
       go_ret2
       exact ⟨_, _, by first | rfl | (simp [errW_none, errW_some] <;> rfl) | (simp [*, errW_none, errW_some] <;> rfl), by (with_reducible repeat (first | apply Kd.R_alloc | apply Kd.R_drewN | apply Kd.R_drew)); exact HO_4.out, by (with_reducible repeat (first | apply Kd.R_alloc | apply Kd.R_drewN | apply Kd.R_drew)); exact HO_5.out, by repeat (first | (with_reducible first | exact HB.out | apply below_alloc | apply pw_below_drewN | apply below_drew1) | exact HB.out)⟩
   ·rw [if_neg c4] at H
    exact absurd H (by simp)
  ·rw [if_neg c3] at H
   exact absurd H (by simp)
 ·rw [if_neg c2] at H
  exact absurd H (by simp)

/-! ### breaks_together: function 62 -/
mutual
def breaks_together.j0 : Nat → Int → Int → Int → Bool → Option (Bool)
 | 0, _, _, _, _ => none
 | k + 1, x1, x5, x6, x7 => if x7 = true then ((breaks_of.f k (([11] : List Int))).bind fun t148 => ((breaks_set_has.f (Go.bits .or .u32 917505 t148) x1).bind fun t149 => (some t149))) else (if x6 = 18 then ((breaks_of.f k (([11, 20] : List Int))).bind fun t153 => ((breaks_set_has.f (Go.bits .or .u32 131073 t153) x1).bind fun t154 => (some t154))) else (if x6 = 19 then ((breaks_of.f k (([11] : List Int))).bind fun t158 => ((breaks_set_has.f (Go.bits .or .u32 131073 t158) x1).bind fun t159 => (some t159))) else (if x6 = 12 then ((breaks_set_has.f 917505 x1).bind fun t160 => (some t160)) else (if x6 = 15 then ((breaks_set_has.f 131073 x1).bind fun t161 => (some t161)) else (if x6 = 10 then (breaks_together.j1 k x1 x5 x6 (x6 == 10)) else (if x6 = 16 then (breaks_together.j1 k x1 x5 x6 (x6 == 16)) else (breaks_together.j1 k x1 x5 x6 (x6 == 11))))))))
def breaks_together.j1 : Nat → Int → Int → Int → Bool → Option (Bool)
 | 0, _, _, _, _ => none
 | k + 1, x1, x5, x6, x27 => if x27 = true then ((breaks_of.f k (([17] : List Int))).bind fun t165 => ((breaks_set_has.f t165 x1).bind fun t166 => (some t166))) else (if x6 = 20 then ((breaks_of.f k (([19] : List Int))).bind fun t170 => ((breaks_set_has.f t170 x1).bind fun t171 => (some t171))) else ((breaks_set_has.f x5 x1).bind fun t172 => (some t172)))
end
def breaks_together.f (k : Nat) (a0 : Int) (a1 : Int) : Option (Bool) := if a0 = 0 then (breaks_together.j0 k a1 0 a0 (a0 == 0)) else (breaks_together.j0 k a1 0 a0 (a0 == 17))
theorem breaks_together.mono_l : ∀ k, (∀ y0 y1 y2 y3, LeO (breaks_together.j0 k y0 y1 y2 y3) (breaks_together.j0 (k + 1) y0 y1 y2 y3)) ∧ (∀ y0 y1 y2 y3, LeO (breaks_together.j1 k y0 y1 y2 y3) (breaks_together.j1 (k + 1) y0 y1 y2 y3))
 | 0 => ⟨fun _ _ _ _ r h => by simp [breaks_together.j0] at h, fun _ _ _ _ r h => by simp [breaks_together.j1] at h⟩
 | k + 1 => by
  obtain ⟨ih0, ih1⟩ := breaks_together.mono_l k
  refine ⟨?_, ?_⟩
  ·intro y0 y1 y2 y3
   unfold breaks_together.j0
   repeat' first
   | (with_reducible exact ih0 _ _ _ _)
   | (with_reducible exact ih1 _ _ _ _)
   | (with_reducible exact breaks_of.mono _ _)
   | (with_reducible exact LeO.refl _)
   | (with_reducible exact LeO.none _)
   | (with_reducible refine LeO.ite ?_ ?_)
   | (with_reducible refine LeO.bind ?_ (fun _ => ?_))
   | exact ih0 _ _ _ _
   | exact ih1 _ _ _ _
   | exact breaks_of.mono _ _
   | exact LeO.none _
   | refine LeO.ite ?_ ?_
   | refine LeO.bind ?_ (fun _ => ?_)
  ·intro y0 y1 y2 y3
   unfold breaks_together.j1
   repeat' first
   | (with_reducible exact ih0 _ _ _ _)
   | (with_reducible exact ih1 _ _ _ _)
   | (with_reducible exact breaks_of.mono _ _)
   | (with_reducible exact LeO.refl _)
   | (with_reducible exact LeO.none _)
   | (with_reducible refine LeO.ite ?_ ?_)
   | (with_reducible refine LeO.bind ?_ (fun _ => ?_))
   | exact ih0 _ _ _ _
   | exact ih1 _ _ _ _
   | exact breaks_of.mono _ _
   | exact LeO.none _
   | refine LeO.ite ?_ ?_
   | refine LeO.bind ?_ (fun _ => ?_)
theorem breaks_together.mono : ∀ a0 a1 k, LeO (breaks_together.f k a0 a1) (breaks_together.f (k + 1) a0 a1) := by
 intro a0 a1 k
 obtain ⟨ih0, ih1⟩ := breaks_together.mono_l k
 unfold breaks_together.f
 repeat' first
   | (with_reducible exact ih0 _ _ _ _)
   | (with_reducible exact ih1 _ _ _ _)
   | (with_reducible exact breaks_of.mono _ _)
   | (with_reducible exact LeO.refl _)
   | (with_reducible exact LeO.none _)
   | (with_reducible refine LeO.ite ?_ ?_)
   | (with_reducible refine LeO.bind ?_ (fun _ => ?_))
   | exact ih0 _ _ _ _
   | exact ih1 _ _ _ _
   | exact breaks_of.mono _ _
   | exact LeO.none _
   | refine LeO.ite ?_ ?_
   | refine LeO.bind ?_ (fun _ => ?_)
set_option maxHeartbeats 8000000 in
set_option maxRecDepth 100000 in
theorem breaks_together.calls (k : Nat) (a0 : Int) (a1 : Int) (r : Bool) (w : World) (h : breaks_together.f k a0 a1 = some r) :
  Calls Try.prog 62 #[.int .i64 a0, .int .i64 a1] w fun e w' => e = .returned (.bool r) ∧ Below w.heap.size w w' := by
 have HB := Aside0.mk (Below.refl w.heap.size w)
 have H : (if a0 = 0 then (breaks_together.j0 k a1 0 a0 (a0 == 0)) else (breaks_together.j0 k a1 0 a0 (a0 == 17))) = some r := h
 clear h
 have HC3 := Aside0.mk H
 clear H
 go_enter Try.func62, Try.ntmps62
 go_upto_if 7 with (fail)
 go_cut [7] (fun v7 wc => ∃ (kq : Nat) (x7_2 : Bool), v7 = .bool x7_2 ∧ Aside0 (breaks_together.j0 kq a1 0 a0 x7_2 = some r) ∧ Aside0 (kq ≤ k) ∧ Aside0 (Below w.heap.size w wc))
 case first =>
  have H := HC3.out
  clear HC3
  by_cases c4 : a0 = 0
  ·rw [if_pos c4] at H
   have c4b0 : (a0 == 0) = true := beq_iff_eq.mpr c4
   have c4b1 : (a0 != 0) = false := bne_eq_false_iff_eq.mpr c4
   clear c4
   (first | rw [c4b0] | (simp only [i64_w, i32_w]; rw [c4b0]) | skip)
   have H' := Aside0.mk H
   clear H
   go_wp2
   go_meet
   case rel => exact ⟨_, ((a0 == 0)), (by first | rfl | (simp; done) | (simp [*]; done)), H', ⟨by first | omega | exact Nat.le_refl _⟩, ⟨by repeat (first | (with_reducible first | exact HB.out | apply below_alloc | apply pw_below_drewN | apply below_drew1) | exact HB.out)⟩⟩
  ·rw [if_neg c4] at H
   have c4b0 : (a0 == 0) = false := beq_eq_false_iff_ne.mpr c4
   have c4b1 : (a0 != 0) = true := bne_iff_ne.mpr c4
   (first | rw [c4b0] | (simp only [i64_w, i32_w]; rw [c4b0]) | skip)
   have H' := Aside0.mk H
   clear H
   go_wp2
   go_meet
   case rel => exact ⟨_, ((a0 == 17)), (by first | rfl | (simp; done) | (simp [*]; done)), H', ⟨by first | omega | exact Nat.le_refl _⟩, ⟨by repeat (first | (with_reducible first | exact HB.out | apply below_alloc | apply pw_below_drewN | apply below_drew1) | exact HB.out)⟩⟩
 case rest =>
  clear HC3
  try clear p2
  try clear c4
  try clear c4b0
  try clear c4b1
  obtain ⟨kq, x7_2, rfl, HA, HJ2, HB⟩ := hcut
  cases kq with
  | zero => exact absurd HA.out (by simp [breaks_together.j0])
  | succ kj2 =>
   have H := HA.out
   clear HA
   simp only [breaks_together.j0] at H
   by_cases c5 : x7_2 = true
   ·subst c5
    have H1 : ((breaks_of.f kj2 (([11] : List Int))).bind fun t148 => ((breaks_set_has.f (Go.bits .or .u32 917505 t148) a1).bind fun t149 => (some t149))) = some r := by rw [if_pos rfl] at H; exact H
    clear H
    have H := H1
    clear H1
    obtain ⟨y145, hy145⟩ : ∃ y_ : List Int, y_ = (([11] : List Int)) := ⟨_, rfl⟩
    replace H : ((breaks_of.f kj2 y145).bind fun t148 => ((breaks_set_has.f (Go.bits .or .u32 917505 t148) a1).bind fun t149 => (some t149))) = some r := by first | (rw [hy145]; with_reducible exact H) | (have H2_ := (Option.bind_some _ _).symm.trans H; rw [hy145]; with_reducible exact H2_) | (have H2_ := (Option.bind_some _ _).symm.trans H; with_reducible exact H2_) | with_reducible exact H | (rw [hy145]; exact H) | exact H
    have Ny145 := Aside0.mk hy145
    clear hy145
    replace H := Option.bind_eq_some_iff.mp H
    obtain ⟨t148, A60, H⟩ := H
    replace H : ((breaks_set_has.f (Go.bits .or .u32 917505 t148) a1).bind fun t149 => (some t149)) = some r := H
    have A6 := Aside0.mk A60
    clear A60
    replace H := Option.bind_eq_some_iff.mp H
    obtain ⟨t149, A70, H⟩ := H
    replace H : (some t149) = some r := H
    have A7 := Aside0.mk A70
    clear A70
    obtain rfl := Option.some.inj H
    go_wp2_with (first | ((with_reducible refine gate_dst (N := 10) rfl ?_); refine Kd.R_lit (Kd.int .i64) _ 3 ?hg (N := 10) ?hd (xs := ([11] : List Int)) (inner := [.int .i64 11]) (ok := fun _ => True) (okp := fun _ => True) ?hr ?hp (fun _ hk => hk) trivial (Below.refl _ _) (Nat.le_refl _) (by simp) ?_; (case hd => rfl); (case hg => rfl); (case hr => first | (go_simp; done) | (go_simp; rfl)); (case hp => exact (Reps.one (show Kd.M (Kd.int .i64) _ _ _ 11 [.int .i64 11] from rfl) (Reps.none _ _))); intro v146 w8 ho9 hb hg_ hnew_; clear hg_ hnew_; (first | rw [← Ny145.out] at ho9 | (simp only [Int.reduceToNat] at ho9; rw [← Ny145.out] at ho9)); have n0_ := Aside0.mk (Kd.R_lower ho9 (below_size (by repeat (first | (with_reducible first | exact HB.out | apply below_alloc | apply pw_below_drewN | apply below_drew1) | exact HB.out)))); have n1_ := Aside0.mk (below_step (by repeat (first | (with_reducible first | exact HB.out | apply below_alloc | apply pw_below_drewN | apply below_drew1) | exact HB.out)) hb); clear HB; have HO147 := n0_; have HB := n1_; clear n0_ n1_; clear hb ho9; obtain ⟨Ao10, co10, eo10⟩ := Kd.R_slice HO147.out; subst eo10) | ((with_reducible refine gate_callee (f := 60) rfl ?_); refine goesL_ (some 11) rfl rfl Try.func60 (by kernel_rfl) rfl #[.slice Ao10 y145.length co10] rfl (by (try simp only [List.map_toArray, List.map_cons, List.map_nil]); first | done | rfl | (simp only [List.length_drop, List.length_take]; rfl)) ?_; (with_reducible refine (breaks_of.calls kj2 _ _ y145 t148 _ ?side1 ?side2 A6.out).mono ?_); (case side1 => repeat (first | exact (Kd.R_reads' HO147.out).2.2 | (with_reducible refine Kd.C_alloc ?_ _) | (with_reducible refine Kd.C_drewN ?_ _) | (with_reducible refine Kd.C_drew ?_))); (case side2 => exact (Kd.R_reads' HO147.out).2.1); rintro e w' ⟨rfl, ⟨nd, rfl⟩⟩; refine ⟨_, rfl, ?_⟩) | (go_at_call 60; (with_reducible refine (breaks_of.calls kj2 _ _ y145 t148 _ ?side1 ?side2 A6.out).mono ?_); (case side1 => repeat (first | exact (Kd.R_reads' HO147.out).2.2 | (with_reducible refine Kd.C_alloc ?_ _) | (with_reducible refine Kd.C_drewN ?_ _) | (with_reducible refine Kd.C_drew ?_))); (case side2 => exact (Kd.R_reads' HO147.out).2.1); rintro e w' ⟨rfl, ⟨nd, rfl⟩⟩) | ((with_reducible refine gate_callee (f := 61) rfl ?_); refine goesL_ (some 39) rfl rfl Try.func61 (by kernel_rfl) rfl #[.int .u32 (Go.bits .or .u32 917505 t148), .int .i64 a1] rfl (by (try simp only [List.map_toArray, List.map_cons, List.map_nil]); first | done | rfl | (simp only [List.length_drop, List.length_take]; rfl)) ?_; (with_reducible refine (breaks_set_has.calls (Go.bits .or .u32 917505 t148) a1 t149 _ A7.out).mono ?_); rintro e w' ⟨rfl, ⟨nd, rfl⟩⟩; refine ⟨_, rfl, ?_⟩) | (go_at_call 61; (with_reducible refine (breaks_set_has.calls (Go.bits .or .u32 917505 t148) a1 t149 _ A7.out).mono ?_); rintro e w' ⟨rfl, ⟨nd, rfl⟩⟩))
    go_ret
    exact ⟨by first | rfl | (simp [errW_none, errW_some] <;> rfl) | (simp [*, errW_none, errW_some] <;> rfl), by repeat (first | (with_reducible first | exact HB.out | apply below_alloc | apply pw_below_drewN | apply below_drew1) | exact HB.out)⟩
   ·replace c5 := Bool.eq_false_iff.mpr c5
    subst c5
    have H1 : (if a0 = 18 then ((breaks_of.f kj2 (([11, 20] : List Int))).bind fun t153 => ((breaks_set_has.f (Go.bits .or .u32 131073 t153) a1).bind fun t154 => (some t154))) else (if a0 = 19 then ((breaks_of.f kj2 (([11] : List Int))).bind fun t158 => ((breaks_set_has.f (Go.bits .or .u32 131073 t158) a1).bind fun t159 => (some t159))) else (if a0 = 12 then ((breaks_set_has.f 917505 a1).bind fun t160 => (some t160)) else (if a0 = 15 then ((breaks_set_has.f 131073 a1).bind fun t161 => (some t161)) else (if a0 = 10 then (breaks_together.j1 kj2 a1 0 a0 (a0 == 10)) else (if a0 = 16 then (breaks_together.j1 kj2 a1 0 a0 (a0 == 16)) else (breaks_together.j1 kj2 a1 0 a0 (a0 == 11)))))))) = some r := by rw [if_neg (show ¬ (false = true) by decide)] at H; exact H
    clear H
    have H := H1
    clear H1
    by_cases c11 : a0 = 18
    ·rw [if_pos c11] at H
     have c11b0 : (a0 == 18) = true := beq_iff_eq.mpr c11
     have c11b1 : (a0 != 18) = false := bne_eq_false_iff_eq.mpr c11
     clear c11
     obtain ⟨y150, hy150⟩ : ∃ y_ : List Int, y_ = (([11, 20] : List Int)) := ⟨_, rfl⟩
     replace H : ((breaks_of.f kj2 y150).bind fun t153 => ((breaks_set_has.f (Go.bits .or .u32 131073 t153) a1).bind fun t154 => (some t154))) = some r := by first | (rw [hy150]; with_reducible exact H) | (have H2_ := (Option.bind_some _ _).symm.trans H; rw [hy150]; with_reducible exact H2_) | (have H2_ := (Option.bind_some _ _).symm.trans H; with_reducible exact H2_) | with_reducible exact H | (rw [hy150]; exact H) | exact H
     have Ny150 := Aside0.mk hy150
     clear hy150
     replace H := Option.bind_eq_some_iff.mp H
     obtain ⟨t153, A120, H⟩ := H
     replace H : ((breaks_set_has.f (Go.bits .or .u32 131073 t153) a1).bind fun t154 => (some t154)) = some r := H
     have A12 := Aside0.mk A120
     clear A120
     replace H := Option.bind_eq_some_iff.mp H
     obtain ⟨t154, A130, H⟩ := H
     replace H : (some t154) = some r := H
     have A13 := Aside0.mk A130
     clear A130
     obtain rfl := Option.some.inj H
     go_wp2_with (first | ((with_reducible refine gate_dst (N := 15) rfl ?_); refine Kd.R_lit (Kd.int .i64) _ 3 ?hg (N := 15) ?hd (xs := ([11, 20] : List Int)) (inner := [.int .i64 11, .int .i64 20]) (ok := fun _ => True) (okp := fun _ => True) ?hr ?hp (fun _ hk => hk) trivial (Below.refl _ _) (Nat.le_refl _) (by simp) ?_; (case hd => rfl); (case hg => rfl); (case hr => first | (go_simp; done) | (go_simp; rfl)); (case hp => exact (Reps.one (show Kd.M (Kd.int .i64) _ _ _ 11 [.int .i64 11] from rfl) (Reps.one (show Kd.M (Kd.int .i64) _ _ _ 20 [.int .i64 20] from rfl) (Reps.none _ _)))); intro v151 w14 ho15 hb hg_ hnew_; clear hg_ hnew_; (first | rw [← Ny150.out] at ho15 | (simp only [Int.reduceToNat] at ho15; rw [← Ny150.out] at ho15)); have n0_ := Aside0.mk (Kd.R_lower ho15 (below_size (by repeat (first | (with_reducible first | exact HB.out | apply below_alloc | apply pw_below_drewN | apply below_drew1) | exact HB.out)))); have n1_ := Aside0.mk (below_step (by repeat (first | (with_reducible first | exact HB.out | apply below_alloc | apply pw_below_drewN | apply below_drew1) | exact HB.out)) hb); clear HB; have HO152 := n0_; have HB := n1_; clear n0_ n1_; clear hb ho15; obtain ⟨Ao16, co16, eo16⟩ := Kd.R_slice HO152.out; subst eo16) | ((with_reducible refine gate_callee (f := 60) rfl ?_); refine goesL_ (some 16) rfl rfl Try.func60 (by kernel_rfl) rfl #[.slice Ao16 y150.length co16] rfl (by (try simp only [List.map_toArray, List.map_cons, List.map_nil]); first | done | rfl | (simp only [List.length_drop, List.length_take]; rfl)) ?_; (with_reducible refine (breaks_of.calls kj2 _ _ y150 t153 _ ?side1 ?side2 A12.out).mono ?_); (case side1 => repeat (first | exact (Kd.R_reads' HO152.out).2.2 | (with_reducible refine Kd.C_alloc ?_ _) | (with_reducible refine Kd.C_drewN ?_ _) | (with_reducible refine Kd.C_drew ?_))); (case side2 => exact (Kd.R_reads' HO152.out).2.1); rintro e w' ⟨rfl, ⟨nd, rfl⟩⟩; refine ⟨_, rfl, ?_⟩) | (go_at_call 60; (with_reducible refine (breaks_of.calls kj2 _ _ y150 t153 _ ?side1 ?side2 A12.out).mono ?_); (case side1 => repeat (first | exact (Kd.R_reads' HO152.out).2.2 | (with_reducible refine Kd.C_alloc ?_ _) | (with_reducible refine Kd.C_drewN ?_ _) | (with_reducible refine Kd.C_drew ?_))); (case side2 => exact (Kd.R_reads' HO152.out).2.1); rintro e w' ⟨rfl, ⟨nd, rfl⟩⟩) | ((with_reducible refine gate_callee (f := 61) rfl ?_); refine goesL_ (some 39) rfl rfl Try.func61 (by kernel_rfl) rfl #[.int .u32 (Go.bits .or .u32 131073 t153), .int .i64 a1] rfl (by (try simp only [List.map_toArray, List.map_cons, List.map_nil]); first | done | rfl | (simp only [List.length_drop, List.length_take]; rfl)) ?_; (with_reducible refine (breaks_set_has.calls (Go.bits .or .u32 131073 t153) a1 t154 _ A13.out).mono ?_); rintro e w' ⟨rfl, ⟨nd, rfl⟩⟩; refine ⟨_, rfl, ?_⟩) | (go_at_call 61; (with_reducible refine (breaks_set_has.calls (Go.bits .or .u32 131073 t153) a1 t154 _ A13.out).mono ?_); rintro e w' ⟨rfl, ⟨nd, rfl⟩⟩))
     go_ret
     exact ⟨by first | rfl | (simp [errW_none, errW_some] <;> rfl) | (simp [*, errW_none, errW_some] <;> rfl), by repeat (first | (with_reducible first | exact HB.out | apply below_alloc | apply pw_below_drewN | apply below_drew1) | exact HB.out)⟩
    ·rw [if_neg c11] at H
     have c11b0 : (a0 == 18) = false := beq_eq_false_iff_ne.mpr c11
     have c11b1 : (a0 != 18) = true := bne_iff_ne.mpr c11
     by_cases c17 : a0 = 19
     ·rw [if_pos c17] at H
      have c17b0 : (a0 == 19) = true := beq_iff_eq.mpr c17
      have c17b1 : (a0 != 19) = false := bne_eq_false_iff_eq.mpr c17
      clear c17
      obtain ⟨y155, hy155⟩ : ∃ y_ : List Int, y_ = (([11] : List Int)) := ⟨_, rfl⟩
      replace H : ((breaks_of.f kj2 y155).bind fun t158 => ((breaks_set_has.f (Go.bits .or .u32 131073 t158) a1).bind fun t159 => (some t159))) = some r := by first | (rw [hy155]; with_reducible exact H) | (have H2_ := (Option.bind_some _ _).symm.trans H; rw [hy155]; with_reducible exact H2_) | (have H2_ := (Option.bind_some _ _).symm.trans H; with_reducible exact H2_) | with_reducible exact H | (rw [hy155]; exact H) | exact H
      have Ny155 := Aside0.mk hy155
      clear hy155
      replace H := Option.bind_eq_some_iff.mp H
      obtain ⟨t158, A180, H⟩ := H
      replace H : ((breaks_set_has.f (Go.bits .or .u32 131073 t158) a1).bind fun t159 => (some t159)) = some r := H
      have A18 := Aside0.mk A180
      clear A180
      replace H := Option.bind_eq_some_iff.mp H
      obtain ⟨t159, A190, H⟩ := H
      replace H : (some t159) = some r := H
      have A19 := Aside0.mk A190
      clear A190
      obtain rfl := Option.some.inj H
      go_wp2_with (first | ((with_reducible refine gate_dst (N := 20) rfl ?_); refine Kd.R_lit (Kd.int .i64) _ 3 ?hg (N := 20) ?hd (xs := ([11] : List Int)) (inner := [.int .i64 11]) (ok := fun _ => True) (okp := fun _ => True) ?hr ?hp (fun _ hk => hk) trivial (Below.refl _ _) (Nat.le_refl _) (by simp) ?_; (case hd => rfl); (case hg => rfl); (case hr => first | (go_simp; done) | (go_simp; rfl)); (case hp => exact (Reps.one (show Kd.M (Kd.int .i64) _ _ _ 11 [.int .i64 11] from rfl) (Reps.none _ _))); intro v156 w20 ho21 hb hg_ hnew_; clear hg_ hnew_; (first | rw [← Ny155.out] at ho21 | (simp only [Int.reduceToNat] at ho21; rw [← Ny155.out] at ho21)); have n0_ := Aside0.mk (Kd.R_lower ho21 (below_size (by repeat (first | (with_reducible first | exact HB.out | apply below_alloc | apply pw_below_drewN | apply below_drew1) | exact HB.out)))); have n1_ := Aside0.mk (below_step (by repeat (first | (with_reducible first | exact HB.out | apply below_alloc | apply pw_below_drewN | apply below_drew1) | exact HB.out)) hb); clear HB; have HO157 := n0_; have HB := n1_; clear n0_ n1_; clear hb ho21; obtain ⟨Ao22, co22, eo22⟩ := Kd.R_slice HO157.out; subst eo22) | ((with_reducible refine gate_callee (f := 60) rfl ?_); refine goesL_ (some 21) rfl rfl Try.func60 (by kernel_rfl) rfl #[.slice Ao22 y155.length co22] rfl (by (try simp only [List.map_toArray, List.map_cons, List.map_nil]); first | done | rfl | (simp only [List.length_drop, List.length_take]; rfl)) ?_; (with_reducible refine (breaks_of.calls kj2 _ _ y155 t158 _ ?side1 ?side2 A18.out).mono ?_); (case side1 => repeat (first | exact (Kd.R_reads' HO157.out).2.2 | (with_reducible refine Kd.C_alloc ?_ _) | (with_reducible refine Kd.C_drewN ?_ _) | (with_reducible refine Kd.C_drew ?_))); (case side2 => exact (Kd.R_reads' HO157.out).2.1); rintro e w' ⟨rfl, ⟨nd, rfl⟩⟩; refine ⟨_, rfl, ?_⟩) | (go_at_call 60; (with_reducible refine (breaks_of.calls kj2 _ _ y155 t158 _ ?side1 ?side2 A18.out).mono ?_); (case side1 => repeat (first | exact (Kd.R_reads' HO157.out).2.2 | (with_reducible refine Kd.C_alloc ?_ _) | (with_reducible refine Kd.C_drewN ?_ _) | (with_reducible refine Kd.C_drew ?_))); (case side2 => exact (Kd.R_reads' HO157.out).2.1); rintro e w' ⟨rfl, ⟨nd, rfl⟩⟩) | ((with_reducible refine gate_callee (f := 61) rfl ?_); refine goesL_ (some 39) rfl rfl Try.func61 (by kernel_rfl) rfl #[.int .u32 (Go.bits .or .u32 131073 t158), .int .i64 a1] rfl (by (try simp only [List.map_toArray, List.map_cons, List.map_nil]); first | done | rfl | (simp only [List.length_drop, List.length_take]; rfl)) ?_; (with_reducible refine (breaks_set_has.calls (Go.bits .or .u32 131073 t158) a1 t159 _ A19.out).mono ?_); rintro e w' ⟨rfl, ⟨nd, rfl⟩⟩; refine ⟨_, rfl, ?_⟩) | (go_at_call 61; (with_reducible refine (breaks_set_has.calls (Go.bits .or .u32 131073 t158) a1 t159 _ A19.out).mono ?_); rintro e w' ⟨rfl, ⟨nd, rfl⟩⟩))
      go_ret
      exact ⟨by first | rfl | (simp [errW_none, errW_some] <;> rfl) | (simp [*, errW_none, errW_some] <;> rfl), by repeat (first | (with_reducible first | exact HB.out | apply below_alloc | apply pw_below_drewN | apply below_drew1) | exact HB.out)⟩
     ·rw [if_neg c17] at H
      have c17b0 : (a0 == 19) = false := beq_eq_false_iff_ne.mpr c17
      have c17b1 : (a0 != 19) = true := bne_iff_ne.mpr c17
      by_cases c23 : a0 = 12
      ·rw [if_pos c23] at H
       have c23b0 : (a0 == 12) = true := beq_iff_eq.mpr c23
       have c23b1 : (a0 != 12) = false := bne_eq_false_iff_eq.mpr c23
       clear c23
       replace H := Option.bind_eq_some_iff.mp H
       obtain ⟨t160, A240, H⟩ := H
       replace H : (some t160) = some r := H
       have A24 := Aside0.mk A240
       clear A240
       obtain rfl := Option.some.inj H
       go_wp2_with (first | ((with_reducible refine gate_callee (f := 61) rfl ?_); refine goesL_ (some 39) rfl rfl Try.func61 (by kernel_rfl) rfl #[.int .u32 917505, .int .i64 a1] rfl (by (try simp only [List.map_toArray, List.map_cons, List.map_nil]); first | done | rfl | (simp only [List.length_drop, List.length_take]; rfl)) ?_; (with_reducible refine (breaks_set_has.calls 917505 a1 t160 _ A24.out).mono ?_); rintro e w' ⟨rfl, ⟨nd, rfl⟩⟩; refine ⟨_, rfl, ?_⟩) | (go_at_call 61; (with_reducible refine (breaks_set_has.calls 917505 a1 t160 _ A24.out).mono ?_); rintro e w' ⟨rfl, ⟨nd, rfl⟩⟩))
       go_ret
       exact ⟨by first | rfl | (simp [errW_none, errW_some] <;> rfl) | (simp [*, errW_none, errW_some] <;> rfl), by repeat (first | (with_reducible first | exact HB.out | apply below_alloc | apply pw_below_drewN | apply below_drew1) | exact HB.out)⟩
      ·rw [if_neg c23] at H
       have c23b0 : (a0 == 12) = false := beq_eq_false_iff_ne.mpr c23
       have c23b1 : (a0 != 12) = true := bne_iff_ne.mpr c23
       by_cases c25 : a0 = 15
       ·rw [if_pos c25] at H
        have c25b0 : (a0 == 15) = true := beq_iff_eq.mpr c25
        have c25b1 : (a0 != 15) = false := bne_eq_false_iff_eq.mpr c25
        clear c25
        replace H := Option.bind_eq_some_iff.mp H
        obtain ⟨t161, A260, H⟩ := H
        replace H : (some t161) = some r := H
        have A26 := Aside0.mk A260
        clear A260
        obtain rfl := Option.some.inj H
        go_wp2_with (first | ((with_reducible refine gate_callee (f := 61) rfl ?_); refine goesL_ (some 39) rfl rfl Try.func61 (by kernel_rfl) rfl #[.int .u32 131073, .int .i64 a1] rfl (by (try simp only [List.map_toArray, List.map_cons, List.map_nil]); first | done | rfl | (simp only [List.length_drop, List.length_take]; rfl)) ?_; (with_reducible refine (breaks_set_has.calls 131073 a1 t161 _ A26.out).mono ?_); rintro e w' ⟨rfl, ⟨nd, rfl⟩⟩; refine ⟨_, rfl, ?_⟩) | (go_at_call 61; (with_reducible refine (breaks_set_has.calls 131073 a1 t161 _ A26.out).mono ?_); rintro e w' ⟨rfl, ⟨nd, rfl⟩⟩))
        go_ret
        exact ⟨by first | rfl | (simp [errW_none, errW_some] <;> rfl) | (simp [*, errW_none, errW_some] <;> rfl), by repeat (first | (with_reducible first | exact HB.out | apply below_alloc | apply pw_below_drewN | apply below_drew1) | exact HB.out)⟩
       ·rw [if_neg c25] at H
        have c25b0 : (a0 == 15) = false := beq_eq_false_iff_ne.mpr c25
        have c25b1 : (a0 != 15) = true := bne_iff_ne.mpr c25
        have HC27 := Aside0.mk H
        clear H
        go_upto_if 27 with (fail)
        go_cut [27] (fun v27 wc => ∃ (kq : Nat) (x27_26 : Bool), v27 = .bool x27_26 ∧ Aside0 (breaks_together.j1 kq a1 0 a0 x27_26 = some r) ∧ Aside0 (kq ≤ kj2) ∧ Aside0 (Below w.heap.size w wc))
        case first =>
         have H := HC27.out
         clear HC27
         by_cases c28 : a0 = 10
         ·rw [if_pos c28] at H
          have c28b0 : (a0 == 10) = true := beq_iff_eq.mpr c28
          have c28b1 : (a0 != 10) = false := bne_eq_false_iff_eq.mpr c28
          clear c28
          (first | rw [c28b0] | (simp only [i64_w, i32_w]; rw [c28b0]) | skip)
          have H' := Aside0.mk H
          clear H
          go_wp2
          go_meet
          case rel => exact ⟨_, ((a0 == 10)), (by first | rfl | (simp; done) | (simp [*]; done)), H', ⟨by have := HJ2.out; first | omega | exact Nat.le_refl _⟩, ⟨by repeat (first | (with_reducible first | exact HB.out | apply below_alloc | apply pw_below_drewN | apply below_drew1) | exact HB.out)⟩⟩
         ·rw [if_neg c28] at H
          have c28b0 : (a0 == 10) = false := beq_eq_false_iff_ne.mpr c28
          have c28b1 : (a0 != 10) = true := bne_iff_ne.mpr c28
          (first | rw [c28b0] | (simp only [i64_w, i32_w]; rw [c28b0]) | skip)
          by_cases c29 : a0 = 16
          ·rw [if_pos c29] at H
           have c29b0 : (a0 == 16) = true := beq_iff_eq.mpr c29
           have c29b1 : (a0 != 16) = false := bne_eq_false_iff_eq.mpr c29
           clear c29
           have H' := Aside0.mk H
           clear H
           go_wp2
           go_meet
           case rel => exact ⟨_, ((a0 == 16)), (by first | rfl | (simp; done) | (simp [*]; done)), H', ⟨by have := HJ2.out; first | omega | exact Nat.le_refl _⟩, ⟨by repeat (first | (with_reducible first | exact HB.out | apply below_alloc | apply pw_below_drewN | apply below_drew1) | exact HB.out)⟩⟩
          ·rw [if_neg c29] at H
           have c29b0 : (a0 == 16) = false := beq_eq_false_iff_ne.mpr c29
           have c29b1 : (a0 != 16) = true := bne_iff_ne.mpr c29
           have H' := Aside0.mk H
           clear H
           go_wp2
           go_meet
           case rel => exact ⟨_, ((a0 == 11)), (by first | rfl | (simp; done) | (simp [*]; done)), H', ⟨by have := HJ2.out; first | omega | exact Nat.le_refl _⟩, ⟨by repeat (first | (with_reducible first | exact HB.out | apply below_alloc | apply pw_below_drewN | apply below_drew1) | exact HB.out)⟩⟩
        case rest =>
         clear HC27
         try clear c1
         try clear c2
         try clear p2
         try clear c4
         try clear c4b0
         try clear c4b1
         try clear c5
         try clear c6
         try clear c11
         try clear c11b0
         try clear c11b1
         try clear c17
         try clear c17b0
         try clear c17b1
         try clear c23
         try clear c23b0
         try clear c23b1
         try clear c25
         try clear c25b0
         try clear c25b1
         try clear c28
         try clear c28b0
         try clear c28b1
         try clear c29
         try clear c29b0
         try clear c29b1
         try clear p2
         obtain ⟨kq, x27_26, rfl, HA, HJ26, HB⟩ := hcut
         cases kq with
         | zero => exact absurd HA.out (by simp [breaks_together.j1])
         | succ kj26 =>
          have H := HA.out
          clear HA
          simp only [breaks_together.j1] at H
          by_cases c30 : x27_26 = true
          ·subst c30
           have H1 : ((breaks_of.f kj26 (([17] : List Int))).bind fun t165 => ((breaks_set_has.f t165 a1).bind fun t166 => (some t166))) = some r := by rw [if_pos rfl] at H; exact H
           clear H
           have H := H1
           clear H1
           obtain ⟨y162, hy162⟩ : ∃ y_ : List Int, y_ = (([17] : List Int)) := ⟨_, rfl⟩
           replace H : ((breaks_of.f kj26 y162).bind fun t165 => ((breaks_set_has.f t165 a1).bind fun t166 => (some t166))) = some r := by first | (rw [hy162]; with_reducible exact H) | (have H2_ := (Option.bind_some _ _).symm.trans H; rw [hy162]; with_reducible exact H2_) | (have H2_ := (Option.bind_some _ _).symm.trans H; with_reducible exact H2_) | with_reducible exact H | (rw [hy162]; exact H) | exact H
           have Ny162 := Aside0.mk hy162
           clear hy162
           replace H := Option.bind_eq_some_iff.mp H
           obtain ⟨t165, A310, H⟩ := H
           replace H : ((breaks_set_has.f t165 a1).bind fun t166 => (some t166)) = some r := H
           have A31 := Aside0.mk A310
           clear A310
           replace H := Option.bind_eq_some_iff.mp H
           obtain ⟨t166, A320, H⟩ := H
           replace H : (some t166) = some r := H
           have A32 := Aside0.mk A320
           clear A320
           obtain rfl := Option.some.inj H
           go_wp2_with (first | ((with_reducible refine gate_dst (N := 31) rfl ?_); refine Kd.R_lit (Kd.int .i64) _ 3 ?hg (N := 31) ?hd (xs := ([17] : List Int)) (inner := [.int .i64 17]) (ok := fun _ => True) (okp := fun _ => True) ?hr ?hp (fun _ hk => hk) trivial (Below.refl _ _) (Nat.le_refl _) (by simp) ?_; (case hd => rfl); (case hg => rfl); (case hr => first | (go_simp; done) | (go_simp; rfl)); (case hp => exact (Reps.one (show Kd.M (Kd.int .i64) _ _ _ 17 [.int .i64 17] from rfl) (Reps.none _ _))); intro v163 w33 ho34 hb hg_ hnew_; clear hg_ hnew_; (first | rw [← Ny162.out] at ho34 | (simp only [Int.reduceToNat] at ho34; rw [← Ny162.out] at ho34)); have n0_ := Aside0.mk (Kd.R_lower ho34 (below_size (by repeat (first | (with_reducible first | exact HB.out | apply below_alloc | apply pw_below_drewN | apply below_drew1) | exact HB.out)))); have n1_ := Aside0.mk (below_step (by repeat (first | (with_reducible first | exact HB.out | apply below_alloc | apply pw_below_drewN | apply below_drew1) | exact HB.out)) hb); clear HB; have HO164 := n0_; have HB := n1_; clear n0_ n1_; clear hb ho34; obtain ⟨Ao35, co35, eo35⟩ := Kd.R_slice HO164.out; subst eo35) | ((with_reducible refine gate_callee (f := 60) rfl ?_); refine goesL_ (some 32) rfl rfl Try.func60 (by kernel_rfl) rfl #[.slice Ao35 y162.length co35] rfl (by (try simp only [List.map_toArray, List.map_cons, List.map_nil]); first | done | rfl | (simp only [List.length_drop, List.length_take]; rfl)) ?_; (with_reducible refine (breaks_of.calls kj26 _ _ y162 t165 _ ?side1 ?side2 A31.out).mono ?_); (case side1 => repeat (first | exact (Kd.R_reads' HO164.out).2.2 | (with_reducible refine Kd.C_alloc ?_ _) | (with_reducible refine Kd.C_drewN ?_ _) | (with_reducible refine Kd.C_drew ?_))); (case side2 => exact (Kd.R_reads' HO164.out).2.1); rintro e w' ⟨rfl, ⟨nd, rfl⟩⟩; refine ⟨_, rfl, ?_⟩) | (go_at_call 60; (with_reducible refine (breaks_of.calls kj26 _ _ y162 t165 _ ?side1 ?side2 A31.out).mono ?_); (case side1 => repeat (first | exact (Kd.R_reads' HO164.out).2.2 | (with_reducible refine Kd.C_alloc ?_ _) | (with_reducible refine Kd.C_drewN ?_ _) | (with_reducible refine Kd.C_drew ?_))); (case side2 => exact (Kd.R_reads' HO164.out).2.1); rintro e w' ⟨rfl, ⟨nd, rfl⟩⟩) | ((with_reducible refine gate_callee (f := 61) rfl ?_); refine goesL_ (some 39) rfl rfl Try.func61 (by kernel_rfl) rfl #[.int .u32 t165, .int .i64 a1] rfl (by (try simp only [List.map_toArray, List.map_cons, List.map_nil]); first | done | rfl | (simp only [List.length_drop, List.length_take]; rfl)) ?_; (with_reducible refine (breaks_set_has.calls t165 a1 t166 _ A32.out).mono ?_); rintro e w' ⟨rfl, ⟨nd, rfl⟩⟩; refine ⟨_, rfl, ?_⟩) | (go_at_call 61; (with_reducible refine (breaks_set_has.calls t165 a1 t166 _ A32.out).mono ?_); rintro e w' ⟨rfl, ⟨nd, rfl⟩⟩))
           go_ret
           exact ⟨by first | rfl | (simp [errW_none, errW_some] <;> rfl) | (simp [*, errW_none, errW_some] <;> rfl), by repeat (first | (with_reducible first | exact HB.out | apply below_alloc | apply pw_below_drewN | apply below_drew1) | exact HB.out)⟩
          ·replace c30 := Bool.eq_false_iff.mpr c30
           subst c30
           have H1 : (if a0 = 20 then ((breaks_of.f kj26 (([19] : List Int))).bind fun t170 => ((breaks_set_has.f t170 a1).bind fun t171 => (some t171))) else ((breaks_set_has.f 0 a1).bind fun t172 => (some t172))) = some r := by rw [if_neg (show ¬ (false = true) by decide)] at H; exact H
           clear H
           have H := H1
           clear H1
           by_cases c36 : a0 = 20
           ·rw [if_pos c36] at H
            have c36b0 : (a0 == 20) = true := beq_iff_eq.mpr c36
            have c36b1 : (a0 != 20) = false := bne_eq_false_iff_eq.mpr c36
            clear c36
            obtain ⟨y167, hy167⟩ : ∃ y_ : List Int, y_ = (([19] : List Int)) := ⟨_, rfl⟩
            replace H : ((breaks_of.f kj26 y167).bind fun t170 => ((breaks_set_has.f t170 a1).bind fun t171 => (some t171))) = some r := by first | (rw [hy167]; with_reducible exact H) | (have H2_ := (Option.bind_some _ _).symm.trans H; rw [hy167]; with_reducible exact H2_) | (have H2_ := (Option.bind_some _ _).symm.trans H; with_reducible exact H2_) | with_reducible exact H | (rw [hy167]; exact H) | exact H
            have Ny167 := Aside0.mk hy167
            clear hy167
            replace H := Option.bind_eq_some_iff.mp H
            obtain ⟨t170, A370, H⟩ := H
            replace H : ((breaks_set_has.f t170 a1).bind fun t171 => (some t171)) = some r := H
            have A37 := Aside0.mk A370
            clear A370
            replace H := Option.bind_eq_some_iff.mp H
            obtain ⟨t171, A380, H⟩ := H
            replace H : (some t171) = some r := H
            have A38 := Aside0.mk A380
            clear A380
            obtain rfl := Option.some.inj H
            go_wp2_with (first | ((with_reducible refine gate_dst (N := 35) rfl ?_); refine Kd.R_lit (Kd.int .i64) _ 3 ?hg (N := 35) ?hd (xs := ([19] : List Int)) (inner := [.int .i64 19]) (ok := fun _ => True) (okp := fun _ => True) ?hr ?hp (fun _ hk => hk) trivial (Below.refl _ _) (Nat.le_refl _) (by simp) ?_; (case hd => rfl); (case hg => rfl); (case hr => first | (go_simp; done) | (go_simp; rfl)); (case hp => exact (Reps.one (show Kd.M (Kd.int .i64) _ _ _ 19 [.int .i64 19] from rfl) (Reps.none _ _))); intro v168 w39 ho40 hb hg_ hnew_; clear hg_ hnew_; (first | rw [← Ny167.out] at ho40 | (simp only [Int.reduceToNat] at ho40; rw [← Ny167.out] at ho40)); have n0_ := Aside0.mk (Kd.R_lower ho40 (below_size (by repeat (first | (with_reducible first | exact HB.out | apply below_alloc | apply pw_below_drewN | apply below_drew1) | exact HB.out)))); have n1_ := Aside0.mk (below_step (by repeat (first | (with_reducible first | exact HB.out | apply below_alloc | apply pw_below_drewN | apply below_drew1) | exact HB.out)) hb); clear HB; have HO169 := n0_; have HB := n1_; clear n0_ n1_; clear hb ho40; obtain ⟨Ao41, co41, eo41⟩ := Kd.R_slice HO169.out; subst eo41) | ((with_reducible refine gate_callee (f := 60) rfl ?_); refine goesL_ (some 36) rfl rfl Try.func60 (by kernel_rfl) rfl #[.slice Ao41 y167.length co41] rfl (by (try simp only [List.map_toArray, List.map_cons, List.map_nil]); first | done | rfl | (simp only [List.length_drop, List.length_take]; rfl)) ?_; (with_reducible refine (breaks_of.calls kj26 _ _ y167 t170 _ ?side1 ?side2 A37.out).mono ?_); (case side1 => repeat (first | exact (Kd.R_reads' HO169.out).2.2 | (with_reducible refine Kd.C_alloc ?_ _) | (with_reducible refine Kd.C_drewN ?_ _) | (with_reducible refine Kd.C_drew ?_))); (case side2 => exact (Kd.R_reads' HO169.out).2.1); rintro e w' ⟨rfl, ⟨nd, rfl⟩⟩; refine ⟨_, rfl, ?_⟩) | (go_at_call 60; (with_reducible refine (breaks_of.calls kj26 _ _ y167 t170 _ ?side1 ?side2 A37.out).mono ?_); (case side1 => repeat (first | exact (Kd.R_reads' HO169.out).2.2 | (with_reducible refine Kd.C_alloc ?_ _) | (with_reducible refine Kd.C_drewN ?_ _) | (with_reducible refine Kd.C_drew ?_))); (case side2 => exact (Kd.R_reads' HO169.out).2.1); rintro e w' ⟨rfl, ⟨nd, rfl⟩⟩) | ((with_reducible refine gate_callee (f := 61) rfl ?_); refine goesL_ (some 39) rfl rfl Try.func61 (by kernel_rfl) rfl #[.int .u32 t170, .int .i64 a1] rfl (by (try simp only [List.map_toArray, List.map_cons, List.map_nil]); first | done | rfl | (simp only [List.length_drop, List.length_take]; rfl)) ?_; (with_reducible refine (breaks_set_has.calls t170 a1 t171 _ A38.out).mono ?_); rintro e w' ⟨rfl, ⟨nd, rfl⟩⟩; refine ⟨_, rfl, ?_⟩) | (go_at_call 61; (with_reducible refine (breaks_set_has.calls t170 a1 t171 _ A38.out).mono ?_); rintro e w' ⟨rfl, ⟨nd, rfl⟩⟩))
            go_ret
            exact ⟨by first | rfl | (simp [errW_none, errW_some] <;> rfl) | (simp [*, errW_none, errW_some] <;> rfl), by repeat (first | (with_reducible first | exact HB.out | apply below_alloc | apply pw_below_drewN | apply below_drew1) | exact HB.out)⟩
           ·rw [if_neg c36] at H
            have c36b0 : (a0 == 20) = false := beq_eq_false_iff_ne.mpr c36
            have c36b1 : (a0 != 20) = true := bne_iff_ne.mpr c36
            replace H := Option.bind_eq_some_iff.mp H
            obtain ⟨t172, A420, H⟩ := H
            replace H : (some t172) = some r := H
            have A42 := Aside0.mk A420
            clear A420
            obtain rfl := Option.some.inj H
            go_wp2_with (first | ((with_reducible refine gate_callee (f := 61) rfl ?_); refine goesL_ (some 39) rfl rfl Try.func61 (by kernel_rfl) rfl #[.int .u32 0, .int .i64 a1] rfl (by (try simp only [List.map_toArray, List.map_cons, List.map_nil]); first | done | rfl | (simp only [List.length_drop, List.length_take]; rfl)) ?_; (with_reducible refine (breaks_set_has.calls 0 a1 t172 _ A42.out).mono ?_); rintro e w' ⟨rfl, ⟨nd, rfl⟩⟩; refine ⟨_, rfl, ?_⟩) | (go_at_call 61; (with_reducible refine (breaks_set_has.calls 0 a1 t172 _ A42.out).mono ?_); rintro e w' ⟨rfl, ⟨nd, rfl⟩⟩))
            go_ret
            exact ⟨by first | rfl | (simp [errW_none, errW_some] <;> rfl) | (simp [*, errW_none, errW_some] <;> rfl), by repeat (first | (with_reducible first | exact HB.out | apply below_alloc | apply pw_below_drewN | apply below_drew1) | exact HB.out)⟩

end Go.Proofs.Yteoonjnmghponaa.P
