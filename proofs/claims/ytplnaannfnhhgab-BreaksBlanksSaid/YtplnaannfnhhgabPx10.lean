/- The plain functions of some Go functions and the proofs that the Go code comes to their answers: written by a program out of the translation. -/
import Derived.Test.YtplnaannfnhhgabPx0
import Derived.Test.YtplnaannfnhhgabPx5
import Derived.Test.YtplnaannfnhhgabUother
import Derived.Test.YtplnaannfnhhgabRl
import Derived.Test.YtplnaannfnhhgabRp
namespace Go.Proofs.Ytplnaannfnhhgab.P
open Go.RowKit Go.Proofs.YtplnaannfnhhgabW.PrintWords Go.Proofs.YtplnaannfnhhgabW.PrintLast Go.Proofs.YtplnaannfnhhgabW.PrintMore
attribute [local go_sem] max2_int min2_int max_two min_two max_three min_three max_four min_four   -- for this text's walks alone
open Go.Proofs.Ytplnaannfnhhgab.F
set_option linter.unusedVariables false
set_option linter.unusedSimpArgs false

/-! ### seriflaw18_BreaksBlanks: function 10 -/
mutual
def seriflaw18_BreaksBlanks.l0 : Nat → List Int → List Int → Int → Option (Bool)
  | 0, _, _, _ => none
  | k + 1, x0, x3, x4 => if x4 < (wrap64 ((x0.length : Int) - 1)) then (if 0 ≤ x4 then (if x4 < (x0.length : Int) then ((serifref12_Look.f (rd x0 x4)).bind fun bt340 => (if 0 ≤ (wrap64 (x4 + 1)) then (if (wrap64 (x4 + 1)) < (x0.length : Int) then ((serifref12_Look.f (rd x0 (wrap64 (x4 + 1)))).bind fun bt344 => (if bt340.2.2 = 0 then (if bt344.2.2 = 0 then (seriflaw18_BreaksBlanks.j1 k x0 x3 x4 bt340.2.2 bt344.2.2 true) else (seriflaw18_BreaksBlanks.j1 k x0 x3 x4 bt340.2.2 bt344.2.2 (bt344.2.2 == 17))) else (if bt340.2.2 = 17 then (if bt344.2.2 = 0 then (seriflaw18_BreaksBlanks.j1 k x0 x3 x4 bt340.2.2 bt344.2.2 true) else (seriflaw18_BreaksBlanks.j1 k x0 x3 x4 bt340.2.2 bt344.2.2 (bt344.2.2 == 17))) else (seriflaw18_BreaksBlanks.j1 k x0 x3 x4 bt340.2.2 bt344.2.2 false)))) else (none)) else (none))) else (none)) else (none)) else (some true)
def seriflaw18_BreaksBlanks.j1 : Nat → List Int → List Int → Int → Int → Int → Bool → Option (Bool)
  | 0, _, _, _, _, _, _ => none
  | k + 1, x0, x3, x4, x5, x6, x7 => if 0 ≤ x4 then (if x4 < (x3.length : Int) then (if (rd x3 x4) = 1 then (if x6 = 4 then (seriflaw18_BreaksBlanks.j2 k x0 x3 x4 x5 x6 x7 true) else (seriflaw18_BreaksBlanks.j2 k x0 x3 x4 x5 x6 x7 x7)) else (seriflaw18_BreaksBlanks.j2 k x0 x3 x4 x5 x6 x7 false)) else (none)) else (none)
def seriflaw18_BreaksBlanks.j2 : Nat → List Int → List Int → Int → Int → Int → Bool → Bool → Option (Bool)
  | 0, _, _, _, _, _, _, _ => none
  | k + 1, x0, x3, x4, x5, x6, x7, x64 => if x64 = true then (some false) else (if 0 ≤ x4 then (if x4 < (x3.length : Int) then (if (rd x3 x4) = 0 then (seriflaw18_BreaksBlanks.l0 k x0 x3 (wrap64 (x4 + 1))) else (if x7 = true then (some false) else (if x6 = 8 then (if x5 = 0 then (some false) else (if x5 = 17 then (some false) else (if x5 = 8 then (if x4 > 0 then (if 0 ≤ (wrap64 (x4 - 1)) then (if (wrap64 (x4 - 1)) < (x3.length : Int) then (if (rd x3 (wrap64 (x4 - 1))) = 0 then (if (wrap64 (x4 - 1)) < (x0.length : Int) then ((serifref12_Look.f (rd x0 (wrap64 (x4 - 1)))).bind fun bt351 => (if bt351.2.2 = 0 then (some false) else (seriflaw18_BreaksBlanks.l0 k x0 x3 (wrap64 (x4 + 1))))) else (none)) else (seriflaw18_BreaksBlanks.l0 k x0 x3 (wrap64 (x4 + 1)))) else (none)) else (none)) else (seriflaw18_BreaksBlanks.l0 k x0 x3 (wrap64 (x4 + 1)))) else (seriflaw18_BreaksBlanks.l0 k x0 x3 (wrap64 (x4 + 1)))))) else (seriflaw18_BreaksBlanks.l0 k x0 x3 (wrap64 (x4 + 1)))))) else (none)) else (none))
end
def seriflaw18_BreaksBlanks.f (k : Nat) (l0 : List Int) : Option (Bool) := (seriflaw18_breaksAlive.f k).bind fun t329 => (if t329 = true then ((some (([] : List Int) : List Int)).bind fun y330 => (if y330.length + l0.length < 17592186044416 then ((breaks_Breaks.f k (y330 ++ l0)).bind fun t336 => (if (t336.length : Int) = (l0.length : Int) then (seriflaw18_BreaksBlanks.l0 k l0 t336 0) else (some false))) else (none))) else (some false))
theorem seriflaw18_BreaksBlanks.mono_l : ∀ k, (∀ y0 y1 y2, LeO (seriflaw18_BreaksBlanks.l0 k y0 y1 y2) (seriflaw18_BreaksBlanks.l0 (k + 1) y0 y1 y2)) ∧ (∀ y0 y1 y2 y3 y4 y5, LeO (seriflaw18_BreaksBlanks.j1 k y0 y1 y2 y3 y4 y5) (seriflaw18_BreaksBlanks.j1 (k + 1) y0 y1 y2 y3 y4 y5)) ∧ (∀ y0 y1 y2 y3 y4 y5 y6, LeO (seriflaw18_BreaksBlanks.j2 k y0 y1 y2 y3 y4 y5 y6) (seriflaw18_BreaksBlanks.j2 (k + 1) y0 y1 y2 y3 y4 y5 y6))
  | 0 => ⟨fun _ _ _ r h => by simp [seriflaw18_BreaksBlanks.l0] at h, fun _ _ _ _ _ _ r h => by simp [seriflaw18_BreaksBlanks.j1] at h, fun _ _ _ _ _ _ _ r h => by simp [seriflaw18_BreaksBlanks.j2] at h⟩
  | k + 1 => by
    obtain ⟨ih0, ih1, ih2⟩ := seriflaw18_BreaksBlanks.mono_l k
    refine ⟨?_, ?_, ?_⟩
    · intro y0 y1 y2
      unfold seriflaw18_BreaksBlanks.l0
      repeat' first
      | (with_reducible exact ih0 _ _ _)
      | (with_reducible exact ih1 _ _ _ _ _ _)
      | (with_reducible exact ih2 _ _ _ _ _ _ _)
      | (with_reducible exact breaks_Breaks.mono _ _)
      | (with_reducible exact seriflaw18_breaksAlive.mono _)
      | (with_reducible exact LeO.refl _)
      | (with_reducible exact LeO.none _)
      | (with_reducible refine LeO.ite ?_ ?_)
      | (with_reducible refine LeO.bind ?_ (fun _ => ?_))
      | exact ih0 _ _ _
      | exact ih1 _ _ _ _ _ _
      | exact ih2 _ _ _ _ _ _ _
      | exact breaks_Breaks.mono _ _
      | exact seriflaw18_breaksAlive.mono _
      | exact LeO.none _
      | refine LeO.ite ?_ ?_
      | refine LeO.bind ?_ (fun _ => ?_)
    · intro y0 y1 y2 y3 y4 y5
      unfold seriflaw18_BreaksBlanks.j1
      repeat' first
      | (with_reducible exact ih0 _ _ _)
      | (with_reducible exact ih1 _ _ _ _ _ _)
      | (with_reducible exact ih2 _ _ _ _ _ _ _)
      | (with_reducible exact breaks_Breaks.mono _ _)
      | (with_reducible exact seriflaw18_breaksAlive.mono _)
      | (with_reducible exact LeO.refl _)
      | (with_reducible exact LeO.none _)
      | (with_reducible refine LeO.ite ?_ ?_)
      | (with_reducible refine LeO.bind ?_ (fun _ => ?_))
      | exact ih0 _ _ _
      | exact ih1 _ _ _ _ _ _
      | exact ih2 _ _ _ _ _ _ _
      | exact breaks_Breaks.mono _ _
      | exact seriflaw18_breaksAlive.mono _
      | exact LeO.none _
      | refine LeO.ite ?_ ?_
      | refine LeO.bind ?_ (fun _ => ?_)
    · intro y0 y1 y2 y3 y4 y5 y6
      unfold seriflaw18_BreaksBlanks.j2
      repeat' first
      | (with_reducible exact ih0 _ _ _)
      | (with_reducible exact ih1 _ _ _ _ _ _)
      | (with_reducible exact ih2 _ _ _ _ _ _ _)
      | (with_reducible exact breaks_Breaks.mono _ _)
      | (with_reducible exact seriflaw18_breaksAlive.mono _)
      | (with_reducible exact LeO.refl _)
      | (with_reducible exact LeO.none _)
      | (with_reducible refine LeO.ite ?_ ?_)
      | (with_reducible refine LeO.bind ?_ (fun _ => ?_))
      | exact ih0 _ _ _
      | exact ih1 _ _ _ _ _ _
      | exact ih2 _ _ _ _ _ _ _
      | exact breaks_Breaks.mono _ _
      | exact seriflaw18_breaksAlive.mono _
      | exact LeO.none _
      | refine LeO.ite ?_ ?_
      | refine LeO.bind ?_ (fun _ => ?_)
theorem seriflaw18_BreaksBlanks.mono : ∀ a0 k, LeO (seriflaw18_BreaksBlanks.f k a0) (seriflaw18_BreaksBlanks.f (k + 1) a0) := by
  intro a0 k
  obtain ⟨ih0, ih1, ih2⟩ := seriflaw18_BreaksBlanks.mono_l k
  unfold seriflaw18_BreaksBlanks.f
  repeat' first
      | (with_reducible exact ih0 _ _ _)
      | (with_reducible exact ih1 _ _ _ _ _ _)
      | (with_reducible exact ih2 _ _ _ _ _ _ _)
      | (with_reducible exact breaks_Breaks.mono _ _)
      | (with_reducible exact seriflaw18_breaksAlive.mono _)
      | (with_reducible exact LeO.refl _)
      | (with_reducible exact LeO.none _)
      | (with_reducible refine LeO.ite ?_ ?_)
      | (with_reducible refine LeO.bind ?_ (fun _ => ?_))
      | exact ih0 _ _ _
      | exact ih1 _ _ _ _ _ _
      | exact ih2 _ _ _ _ _ _ _
      | exact breaks_Breaks.mono _ _
      | exact seriflaw18_breaksAlive.mono _
      | exact LeO.none _
      | refine LeO.ite ?_ ?_
      | refine LeO.bind ?_ (fun _ => ?_)
def seriflaw18_BreaksBlanks.T9 : Bool × List (List Nat × List Nat) := (true, [([], []), ([], []), ([0, 1], [0, 1]), ([2], [2]), ([3], [3]), ([4], [4]), ([], []), ([], []), ([7], [7]), ([6, 8], [6, 8]), ([9], [9]), ([10, 4], [10]), ([11], [11]), ([5, 11, 0, 1, 2, 3, 4, 5], [5]), ([12, 13, 0, 1, 2, 3, 4, 5, 6, 7, 8, 9, 10, 11, 12, 13], [12])])
def seriflaw18_BreaksBlanks.B9 : List Nat := [0, 0, 3, 7, 15, 31, 0, 0, 128, 448, 960, 2015, 4063, 4095, 16383]
theorem seriflaw18_BreaksBlanks.tab9 : rtab .any (opsOf Try.f10 9) = seriflaw18_BreaksBlanks.T9 := by kernel_rfl
theorem seriflaw18_BreaksBlanks.bits9 : waitsOk seriflaw18_BreaksBlanks.T9.2 seriflaw18_BreaksBlanks.B9 = true := by kernel_rfl
set_option maxHeartbeats 8000000 in
set_option maxRecDepth 100000 in
theorem seriflaw18_BreaksBlanks.calls (k : Nat) (A0 : Option Addr) (c0 : Nat) (l0 : List Int) (r : Bool) (w : World) (hr0 : Kd.C (Kd.int .i64) w A0 l0.length l0) (hc0 : l0.length ≤ c0) (h : seriflaw18_BreaksBlanks.f k l0 = some r) :
    Calls Try.prog 10 #[.slice A0 l0.length c0] w fun e w' => e = .returned (.bool r) ∧ Below w.heap.size w w' := by
  have HR0 := Aside0.mk hr0
  have HC0 := Aside0.mk hc0
  clear hr0 hc0
  have HB := Aside0.mk (Below.refl w.heap.size w)
  have H : ((seriflaw18_breaksAlive.f k).bind fun t329 => (if t329 = true then ((some (([] : List Int) : List Int)).bind fun y330 => (if y330.length + l0.length < 17592186044416 then ((breaks_Breaks.f k (y330 ++ l0)).bind fun t336 => (if (t336.length : Int) = (l0.length : Int) then (seriflaw18_BreaksBlanks.l0 k l0 t336 0) else (some false))) else (none))) else (some false))) = some r := h
  clear h
  replace H := Option.bind_eq_some_iff.mp H
  obtain ⟨t329, A20, H⟩ := H
  replace H : (if t329 = true then ((some (([] : List Int) : List Int)).bind fun y330 => (if y330.length + l0.length < 17592186044416 then ((breaks_Breaks.f k (y330 ++ l0)).bind fun t336 => (if (t336.length : Int) = (l0.length : Int) then (seriflaw18_BreaksBlanks.l0 k l0 t336 0) else (some false))) else (none))) else (some false)) = some r := H
  have A2 := Aside0.mk A20
  clear A20
  by_cases c3 : t329 = true
  · subst c3
    have H1 : ((some (([] : List Int) : List Int)).bind fun y330 => (if y330.length + l0.length < 17592186044416 then ((breaks_Breaks.f k (y330 ++ l0)).bind fun t336 => (if (t336.length : Int) = (l0.length : Int) then (seriflaw18_BreaksBlanks.l0 k l0 t336 0) else (some false))) else (none))) = some r := by rw [if_pos rfl] at H; exact H
    clear H
    have H := H1
    clear H1
    obtain ⟨y330, hy330⟩ : ∃ y_ : List Int, y_ = (([] : List Int)) := ⟨_, rfl⟩
    replace H : (if y330.length + l0.length < 17592186044416 then ((breaks_Breaks.f k (y330 ++ l0)).bind fun t336 => (if (t336.length : Int) = (l0.length : Int) then (seriflaw18_BreaksBlanks.l0 k l0 t336 0) else (some false))) else (none)) = some r := by first | (rw [hy330]; with_reducible exact H) | (have H2_ := (Option.bind_some _ _).symm.trans H; rw [hy330]; with_reducible exact H2_) | (have H2_ := (Option.bind_some _ _).symm.trans H; with_reducible exact H2_) | with_reducible exact H | (rw [hy330]; exact H) | exact H
    have Ny330 := Aside0.mk hy330
    clear hy330
    by_cases c4 : y330.length + l0.length < 17592186044416
    · rw [if_pos c4] at H
      have LMc4 := Aside0.mk c4
      clear c4
      obtain ⟨y333, hy333⟩ : ∃ y_ : List Int, y_ = (y330 ++ l0) := ⟨_, rfl⟩
      replace H : ((breaks_Breaks.f k y333).bind fun t336 => (if (t336.length : Int) = (l0.length : Int) then (seriflaw18_BreaksBlanks.l0 k l0 t336 0) else (some false))) = some r := by first | (rw [hy333]; with_reducible exact H) | (have H2_ := (Option.bind_some _ _).symm.trans H; rw [hy333]; with_reducible exact H2_) | (have H2_ := (Option.bind_some _ _).symm.trans H; with_reducible exact H2_) | with_reducible exact H | (rw [hy333]; exact H) | exact H
      have Ny333 := Aside0.mk hy333
      clear hy333
      replace H := Option.bind_eq_some_iff.mp H
      obtain ⟨t336, A50, H⟩ := H
      replace H : (if (t336.length : Int) = (l0.length : Int) then (seriflaw18_BreaksBlanks.l0 k l0 t336 0) else (some false)) = some r := H
      have A5 := Aside0.mk A50
      clear A50
      by_cases c6 : (t336.length : Int) = (l0.length : Int)
      · rw [if_pos c6] at H
        have c6b0 : ((t336.length : Int) == (l0.length : Int)) = true := beq_iff_eq.mpr c6
        have c6b1 : ((t336.length : Int) != (l0.length : Int)) = false := bne_eq_false_iff_eq.mpr c6
        have c6b2 : (t336.length == l0.length) = true := by first | simpa using c6 | (simp at c6 ⊢; omega)
        clear c6
        have H' := Aside0.mk H
        clear H
        have hfd24_2 : ∀ (f0_ : Int) (f1_ : Int) (f2_ : Int) (w : World), (Instr.field 24 (.agg #[.int .i64 f0_, .int .i64 f1_, .int .i64 f2_]) 2).run Try.prog w = .ok (.int .i64 f2_) w := fun _ _ _  _ => by kernel_rfl
        go_enter Try.func10, Try.ntmps10
        go_wp2_with (first | ((with_reducible refine gate_callee (f := 27) rfl ?_); refine goesL_ (some 8) rfl rfl Try.func27 (by kernel_rfl) rfl #[] rfl (by (try simp only [List.map_toArray, List.map_cons, List.map_nil]); first | done | rfl | (simp only [List.length_drop, List.length_take]; rfl)) ?_; (with_reducible refine (seriflaw18_breaksAlive.calls k  true _ A2.out).mono ?_); rintro e w7 ⟨rfl, hb⟩; refine ⟨_, rfl, ?_⟩; have n0_ := Aside0.mk (below_step (by repeat (first | (with_reducible first | exact HB.out | apply below_alloc | apply pw_below_drewN | apply below_drew1) | exact HB.out)) hb); clear HB; have HB := n0_; clear n0_; (try clear hb); (try clear hb2); (try clear hk); (try clear hi)) | ((with_reducible refine gate_dst (N := 10) rfl ?_); refine Kd.R_lit (Kd.int .i64) _ 3 ?hg (N := 10) ?hd (xs := ([] : List Int)) (inner := []) (ok := fun _ => True) (okp := fun _ => True) ?hr ?hp (fun _ hk => hk) trivial (Below.refl _ _) (Nat.le_refl _) (by simp) ?_; (case hd => rfl); (case hg => rfl); (case hr => first | (go_simp; done) | (go_simp; rfl)); (case hp => exact (Reps.none _ _)); intro v331 w8 ho9 hb hg_ hnew_; clear hg_ hnew_; (first | rw [← Ny330.out] at ho9 | (simp only [Int.reduceToNat] at ho9; rw [← Ny330.out] at ho9)); have n0_ := Aside0.mk (Kd.R_lower ho9 (below_size (by repeat (first | (with_reducible first | exact HB.out | apply below_alloc | apply pw_below_drewN | apply below_drew1) | exact HB.out)))); have n1_ := Aside0.mk (below_step (by repeat (first | (with_reducible first | exact HB.out | apply below_alloc | apply pw_below_drewN | apply below_drew1) | exact HB.out)) hb); clear HB; have HO332 := n0_; have HB := n1_; clear n0_ n1_; clear hb ho9) | ((with_reducible refine gate_builtin (b := .append) (xs := #[.tmp 10, .tmp 11]) rfl ?_); at_builtin; refine Kd.R_append_rows (Kd.int .i64) (w0 := w) w.heap.size rfl (.tmp 10) (.tmp 11) 45 3 (.int .i64 0) 8 rfl Try.underlying45 info3 rfl (by decide) (by omega) v331 y330 l0 _ _ _ (fun _ => True) (fun _ => False) rfl rfl ?aO ?aR (fun _ _ h => h) (fun _ h => h.elim) ?aF ?aB ?aS ?aL ?_; (case aR => repeat (first | exact (Kd.C_below HR0.out HB.out) | (with_reducible refine Kd.C_alloc ?_ _) | (with_reducible refine Kd.C_drewN ?_ _) | (with_reducible refine Kd.C_drew ?_))); (case aB => exact (by repeat (first | (with_reducible first | exact HB.out | apply below_alloc | apply pw_below_drewN | apply below_drew1) | exact HB.out))); (case aF => exact (fun _ _ => trivial)); (case aO => exact (by (with_reducible repeat (first | apply Kd.R_alloc | apply Kd.R_drewN | apply Kd.R_drew)); exact HO332.out)); (case aS => exact (below_size (by repeat (first | (with_reducible first | exact HB.out | apply below_alloc | apply pw_below_drewN | apply below_drew1) | exact HB.out)))); (case aL => have := LMc4.out; omega); intro v334 w10 ho hb hg hat; rw [← Ny333.out] at ho; have n0_ := Aside0.mk (hb); have n1_ := Aside0.mk (ho); clear HB; clear HO332; have HB := n0_; have HO335 := n1_; clear n0_ n1_; clear ho hb hg hat; obtain ⟨Ao11, co11, eo11⟩ := Kd.R_slice HO335.out; subst eo11) | ((with_reducible refine gate_callee (f := 29) rfl ?_); refine goesL_ (some 13) rfl rfl Try.func29 (by kernel_rfl) rfl #[.slice Ao11 y333.length co11] rfl (by (try simp only [List.map_toArray, List.map_cons, List.map_nil]); first | done | rfl | (simp only [List.length_drop, List.length_take]; rfl)) ?_; (with_reducible refine (breaks_Breaks.calls k _ _ y333 t336 _ ?side1 ?side2 A5.out).mono ?_); (case side1 => repeat (first | exact (Kd.R_reads' HO335.out).2.2 | (with_reducible refine Kd.C_alloc ?_ _) | (with_reducible refine Kd.C_drewN ?_ _) | (with_reducible refine Kd.C_drew ?_))); (case side2 => exact (Kd.R_reads' HO335.out).2.1); rintro e w12 ⟨v337, rfl, ho0, hb⟩; refine ⟨_, rfl, ?_⟩; have n0_ := Aside0.mk (Kd.R_elder' (by (with_reducible repeat (first | apply Kd.R_alloc | apply Kd.R_drewN | apply Kd.R_drew)); exact HO335.out) (Kd.R_base ho0) hb); have n1_ := Aside0.mk (Kd.R_lower (Kd.R_new' ho0 (Kd.R_lt (by (with_reducible repeat (first | apply Kd.R_alloc | apply Kd.R_drewN | apply Kd.R_drew)); exact HO335.out))) (below_size (by repeat (first | (with_reducible first | exact HB.out | apply below_alloc | apply pw_below_drewN | apply below_drew1) | exact HB.out)))); have n2_ := Aside0.mk (below_step (by repeat (first | (with_reducible first | exact HB.out | apply below_alloc | apply pw_below_drewN | apply below_drew1) | exact HB.out)) hb); clear HO335; clear HB; have HO335 := n0_; have HO338 := n1_; have HB := n2_; clear n0_ n1_ n2_; (try clear hb); (try clear hb2); (try clear hk); (try clear hi); (try clear ho0); obtain ⟨Ao13, co13, eo13⟩ := Kd.R_slice HO338.out; subst eo13))
        go_loopg [4] k (fun kq v4 w' => ∃ (x4_1 : Int), v4 = .int .i64 x4_1 ∧ Aside0 (seriflaw18_BreaksBlanks.l0 kq l0 t336 x4_1 = some r) ∧ Aside0 (kq ≤ k) ∧ Aside0 (Kd.R (Kd.int .i64) 3 w' w.heap.size (fun _ => True) (.slice Ao13 t336.length co13) t336) ∧ Aside0 (Below w.heap.size w w'))
        case atStart => exact ⟨(0), (by first | rfl | (simp; done) | (simp [*]; done)), H', ⟨Nat.le_refl _⟩, ⟨by (with_reducible repeat (first | apply Kd.R_alloc | apply Kd.R_drewN | apply Kd.R_drew)); exact Kd.R_mono HO338.out (fun _ hk => trivial)⟩, ⟨by repeat (first | (with_reducible first | exact HB.out | apply below_alloc | apply pw_below_drewN | apply below_drew1) | exact HB.out)⟩⟩
        case round =>
          clear H'
          try clear c1
          try clear c2
          try clear p2
          try clear c3
          try clear c4
          try clear c6
          try clear c6b0
          try clear c6b1
          try clear c6b2
          try clear c10
          obtain ⟨x4_1, rfl, HA, HK1, HO_3, HB⟩ := hrel
          cases gk with
          | zero => exact absurd HA.out (by simp [seriflaw18_BreaksBlanks.l0])
          | succ k1 =>
            have H := HA.out
            clear HA
            simp only [seriflaw18_BreaksBlanks.l0] at H
            by_cases c14 : x4_1 < (wrap64 ((l0.length : Int) - 1))
            · rw [if_pos c14] at H
              have c14b0 : decide (x4_1 < (wrap64 ((l0.length : Int) - 1))) = true := decide_eq_true c14
              clear c14
              by_cases c15 : 0 ≤ x4_1
              · rw [if_pos c15] at H
                have c15b0 : decide (0 ≤ x4_1) = true := decide_eq_true c15
                clear c15
                by_cases c16 : x4_1 < (l0.length : Int)
                · rw [if_pos c16] at H
                  have c16b0 : decide (x4_1 < (l0.length : Int)) = true := decide_eq_true c16
                  clear c16
                  replace H := Option.bind_eq_some_iff.mp H
                  obtain ⟨⟨t340, t341, t342⟩, A170, H⟩ := H
                  replace H : (if 0 ≤ (wrap64 (x4_1 + 1)) then (if (wrap64 (x4_1 + 1)) < (l0.length : Int) then ((serifref12_Look.f (rd l0 (wrap64 (x4_1 + 1)))).bind fun bt344 => (if t342 = 0 then (if bt344.2.2 = 0 then (seriflaw18_BreaksBlanks.j1 k1 l0 t336 x4_1 t342 bt344.2.2 true) else (seriflaw18_BreaksBlanks.j1 k1 l0 t336 x4_1 t342 bt344.2.2 (bt344.2.2 == 17))) else (if t342 = 17 then (if bt344.2.2 = 0 then (seriflaw18_BreaksBlanks.j1 k1 l0 t336 x4_1 t342 bt344.2.2 true) else (seriflaw18_BreaksBlanks.j1 k1 l0 t336 x4_1 t342 bt344.2.2 (bt344.2.2 == 17))) else (seriflaw18_BreaksBlanks.j1 k1 l0 t336 x4_1 t342 bt344.2.2 false)))) else (none)) else (none)) = some r := H
                  have A17 := Aside0.mk A170
                  clear A170
                  obtain ⟨ji18, hji18⟩ : ∃ j_ : Int, (wrap64 (x4_1 + 1)) = j_ := ⟨_, rfl⟩
                  replace H : (if 0 ≤ (ji18) then (if (ji18) < (l0.length : Int) then ((serifref12_Look.f (rd l0 (ji18))).bind fun bt344 => (if t342 = 0 then (if bt344.2.2 = 0 then (seriflaw18_BreaksBlanks.j1 k1 l0 t336 x4_1 t342 bt344.2.2 true) else (seriflaw18_BreaksBlanks.j1 k1 l0 t336 x4_1 t342 bt344.2.2 (bt344.2.2 == 17))) else (if t342 = 17 then (if bt344.2.2 = 0 then (seriflaw18_BreaksBlanks.j1 k1 l0 t336 x4_1 t342 bt344.2.2 true) else (seriflaw18_BreaksBlanks.j1 k1 l0 t336 x4_1 t342 bt344.2.2 (bt344.2.2 == 17))) else (seriflaw18_BreaksBlanks.j1 k1 l0 t336 x4_1 t342 bt344.2.2 false)))) else (none)) else (none)) = some r := by first | (rw [hji18] at H; exact H) | (simp only [hji18] at H ⊢; exact H)
                  (try rw [hji18] at A17)
                  have hji18w : (IntKind.i64.wrap (x4_1 + 1)) = ji18 := (i64_w _).trans hji18
                  by_cases c19 : 0 ≤ (ji18)
                  · rw [if_pos c19] at H
                    have c19b0 : decide (0 ≤ (ji18)) = true := decide_eq_true c19
                    clear c19
                    by_cases c20 : (ji18) < (l0.length : Int)
                    · rw [if_pos c20] at H
                      have c20b0 : decide ((ji18) < (l0.length : Int)) = true := decide_eq_true c20
                      clear c20
                      replace H := Option.bind_eq_some_iff.mp H
                      obtain ⟨⟨t344, t345, t346⟩, A210, H⟩ := H
                      replace H : (if t342 = 0 then (if t346 = 0 then (seriflaw18_BreaksBlanks.j1 k1 l0 t336 x4_1 t342 t346 true) else (seriflaw18_BreaksBlanks.j1 k1 l0 t336 x4_1 t342 t346 (t346 == 17))) else (if t342 = 17 then (if t346 = 0 then (seriflaw18_BreaksBlanks.j1 k1 l0 t336 x4_1 t342 t346 true) else (seriflaw18_BreaksBlanks.j1 k1 l0 t336 x4_1 t342 t346 (t346 == 17))) else (seriflaw18_BreaksBlanks.j1 k1 l0 t336 x4_1 t342 t346 false))) = some r := H
                      have A21 := Aside0.mk A210
                      clear A210
                      have HC22 := Aside0.mk H
                      clear H
                      try go_wp2
                      have n0_ := Aside0.mk (Kd.R_drew HO_3.out)
                      have n1_ := Aside0.mk (below_drew1 HB.out)
                      clear HO_3
                      clear HB
                      have HO_3 := n0_
                      have HB := n1_
                      clear n0_ n1_
                      have p339 : 0 ≤ (x4_1 : Int) := of_decide_eq_true (by first | (with_reducible assumption) | assumption)
                      have q339 : x4_1 < (l0.length : Int) := of_decide_eq_true (by first | (with_reducible assumption) | assumption)
                      obtain ⟨ad339, e339, hx339_0⟩ := Kd.at_int HR0.out x4_1 p339 q339
                      have hw339_0 := hx339_0
                      cases e339
                      replace hx339_0 := (HB.out.cell (World.block_lt_of_cell? w _ hx339_0)).trans hx339_0
                      replace p339 := eq_true p339
                      replace q339 := eq_true q339
                      have p343 : 0 ≤ ((ji18) : Int) := of_decide_eq_true (by first | (with_reducible assumption) | assumption)
                      have q343 : (ji18) < (l0.length : Int) := of_decide_eq_true (by first | (with_reducible assumption) | assumption)
                      obtain ⟨ad343, e343, hx343_0⟩ := Kd.at_int HR0.out (ji18) p343 q343
                      have hw343_0 := hx343_0
                      obtain rfl : ad339 = ad343 := (by injection e343)
                      replace hx343_0 := (HB.out.cell (World.block_lt_of_cell? w _ hx343_0)).trans hx343_0
                      replace p343 := eq_true p343
                      replace q343 := eq_true q343
                      refine start_ (n := 15) (S := fun w' => w'.cell? (ad339.add (x4_1).toNat) = some (.int .i64 (rd l0 x4_1)) ∧ w'.cell? (ad339.add ((ji18)).toNat) = some (.int .i64 (rd l0 (ji18)))) (ds := []) #[false, false, false, false, false, false, false, false, false, false, false, false, false, false, false] (by kernel_rfl) rfl rfl ⟨((HB.out.cell (World.block_lt_of_cell? w _ hw339_0)).trans hw339_0), ((HB.out.cell (World.block_lt_of_cell? w _ hw343_0)).trans hw343_0)⟩ (fun hHeld => ?_); refine with_tabW seriflaw18_BreaksBlanks.tab9 seriflaw18_BreaksBlanks.bits9 (fun HT_ HW_ => ?_)
                      generalize wr.drew = w23 at HO_3 HB hx339_0 hx343_0 hHeld ⊢
                      refine pure_ (i := 0) (N := some 26) (v := ?_) (a' := ?_) #[true, false, false, false, false, false, false, false, false, false, false, false, false, false, false] rfl rfl (any_of HT_.out (by kernel_rfl)) (fun _ _ _ h => h) (Or.inl ⟨by rfl, ?_⟩) ?_ ?_
                      rotate_left
                      · intro w'
                        go_simp
                        with_reducible rfl
                      rotate_left
                      · simp only [Act.put, List.setIfInBounds_toArray, List.set_cons_zero, List.set_cons_succ, i64_w, i32_w]
                        rfl
                      refine pure_ (i := 1) (N := some 27) (v := ?_) (a' := ?_) #[true, true, false, false, false, false, false, false, false, false, false, false, false, false, false] rfl rfl (any_of HT_.out (by kernel_rfl)) (fun _ _ _ h => h) (Or.inl ⟨by rfl, ?_⟩) ?_ ?_
                      rotate_left
                      · intro w'
                        go_simp
                        with_reducible rfl
                      rotate_left
                      · simp only [Act.put, List.setIfInBounds_toArray, List.set_cons_zero, List.set_cons_succ, i64_w, i32_w]
                        rfl
                      refine pure_ (i := 2) (N := some 28) (v := ?_) (a' := ?_) #[true, true, true, false, false, false, false, false, false, false, false, false, false, false, false] rfl rfl (any_of HT_.out (by kernel_rfl)) (fun _ _ _ h => h) (Or.inl ⟨by rfl, ?_⟩) ?_ ?_
                      rotate_left
                      · intro w'
                        go_simp
                        with_reducible rfl
                      rotate_left
                      · simp only [Act.put, List.setIfInBounds_toArray, List.set_cons_zero, List.set_cons_succ, i64_w, i32_w]
                        rfl
                      refine pure_ (i := 6) (N := some 32) (v := ?_) (a' := ?_) #[true, true, true, false, false, false, true, false, false, false, false, false, false, false, false] rfl rfl (any_of HT_.out (by kernel_rfl)) (fun _ _ _ h => h) (Or.inl ⟨by rfl, ?_⟩) ?_ ?_
                      rotate_left
                      · intro w'
                        go_simp
                        with_reducible rfl
                      rotate_left
                      · simp only [Act.put, List.setIfInBounds_toArray, List.set_cons_zero, List.set_cons_succ, i64_w, i32_w]
                        rfl
                      refine pure_ (i := 7) (N := some 33) (v := ?_) (a' := ?_) #[true, true, true, false, false, false, true, true, false, false, false, false, false, false, false] rfl rfl (any_of HT_.out (by kernel_rfl)) (fun _ _ _ h => h) (Or.inl ⟨by rfl, ?_⟩) ?_ ?_
                      rotate_left
                      · intro w'
                        go_simp
                        with_reducible rfl
                      rotate_left
                      · simp only [Act.put, List.setIfInBounds_toArray, List.set_cons_zero, List.set_cons_succ, i64_w, i32_w]
                        rfl
                      refine pure_ (i := 8) (N := some 34) (v := ?_) (a' := ?_) #[true, true, true, false, false, false, true, true, true, false, false, false, false, false, false] rfl rfl (any_of HT_.out (by kernel_rfl)) (fun _ _ _ h => h) (Or.inl ⟨by rfl, ?_⟩) ?_ ?_
                      rotate_left
                      · intro w'
                        go_simp
                        with_reducible rfl
                      rotate_left
                      · simp only [Act.put, List.setIfInBounds_toArray, List.set_cons_zero, List.set_cons_succ, i64_w, i32_w]
                        rfl
                      refine pure_ (i := 9) (N := some 35) (v := ?_) (a' := ?_) #[true, true, true, false, false, false, true, true, true, true, false, false, false, false, false] rfl rfl (any_of HT_.out (by kernel_rfl)) (fun _ _ _ h => h) (Or.inl ⟨by rfl, ?_⟩) ?_ ?_
                      rotate_left
                      · intro w'
                        go_simp
                        with_reducible rfl
                      rotate_left
                      · simp only [Act.put, List.setIfInBounds_toArray, List.set_cons_zero, List.set_cons_succ, i64_w, i32_w]
                        rfl
                      refine take_ (i := 3) (N := some 29) (v := ?_) (a' := ?_) #[true, true, true, true, false, false, true, true, true, true, false, false, false, false, false] rfl rfl (take_ofW HT_.out HW_.out (by kernel_rfl)) (fun _ _ _ h => h) (Or.inl ⟨by rfl, ?_⟩) hHeld ?_ ?_
                      rotate_left
                      · rintro w' ⟨s0, s1⟩
                        go_simp
                        with_reducible rfl
                      rotate_left
                      · simp only [Act.put, List.setIfInBounds_toArray, List.set_cons_zero, List.set_cons_succ, i64_w, i32_w]
                        rfl
                      refine take_ (i := 10) (N := some 36) (v := ?_) (a' := ?_) #[true, true, true, true, false, false, true, true, true, true, true, false, false, false, false] rfl rfl (take_ofW HT_.out HW_.out (by kernel_rfl)) (fun _ _ _ h => h) (Or.inl ⟨by rfl, ?_⟩) hHeld ?_ ?_
                      rotate_left
                      · rintro w' ⟨s0, s1⟩
                        go_simp
                        with_reducible rfl
                      rotate_left
                      · simp only [Act.put, List.setIfInBounds_toArray, List.set_cons_zero, List.set_cons_succ, i64_w, i32_w]
                        rfl
                      refine one_ (i := 4) (N := some 30) #[true, true, true, true, true, false, true, true, true, true, true, false, false, false, false] rfl rfl (one_of HT_.out (by kernel_rfl)) (by decide) (fun K hK => ?_)
                      refine goes_ Try.func17 (by kernel_rfl) rfl #[.int .i64 (rd l0 x4_1)] (by rfl) rfl rfl (by (try simp only [List.map_toArray, List.map_cons, List.map_nil]); first | done | rfl | (simp only [List.length_drop, List.length_take]; rfl)) ?_
                      with_reducible refine (serifref12_Look.calls (rd l0 x4_1) t340 t341 t342 _ A17.out).mono ?_
                      rintro e w24 ⟨rfl, hb⟩
                      refine ⟨_, rfl, ?_⟩
                      have n0_ := Aside0.mk (Kd.R_below (by (with_reducible repeat (first | apply Kd.R_alloc | apply Kd.R_drewN | apply Kd.R_drew)); exact HO_3.out) hb)
                      have n1_ := Aside0.mk (below_step (by repeat (first | (with_reducible first | exact HB.out | apply below_alloc | apply pw_below_drewN | apply below_drew1) | exact HB.out)) hb)
                      clear HO_3
                      clear HB
                      have HO_3 := n0_
                      have HB := n1_
                      clear n0_ n1_
                      (try clear hb)
                      (try clear hb2)
                      (try clear hk)
                      (try clear hi)
                      refine hK.out _ _ ⟨((HB.out.cell (World.block_lt_of_cell? w _ hw339_0)).trans hw339_0), ((HB.out.cell (World.block_lt_of_cell? w _ hw343_0)).trans hw343_0)⟩ (fun hHeld => ?_)
                      clear hK K
                      refine norm_ (a' := ?_) ?_ ?_
                      rotate_left
                      · show Act.put _ (some 30) _ = _
                        simp only [Act.put, List.setIfInBounds_toArray, List.set_cons_zero, List.set_cons_succ, i64_w, i32_w]
                        rfl
                      refine pure_ (i := 5) (N := some 31) (v := ?_) (a' := ?_) #[true, true, true, true, true, true, true, true, true, true, true, false, false, false, false] rfl rfl (any_of HT_.out (by kernel_rfl)) (fun _ _ _ h => h) (Or.inl ⟨by rfl, ?_⟩) ?_ ?_
                      rotate_left
                      · intro w'
                        go_simp
                        with_reducible rfl
                      rotate_left
                      · simp only [Act.put, List.setIfInBounds_toArray, List.set_cons_zero, List.set_cons_succ, i64_w, i32_w]
                        rfl
                      refine one_ (i := 11) (N := some 37) #[true, true, true, true, true, true, true, true, true, true, true, true, false, false, false] rfl rfl (one_of HT_.out (by kernel_rfl)) (by decide) (fun K hK => ?_)
                      refine goes_ Try.func17 (by kernel_rfl) rfl #[.int .i64 (rd l0 (ji18))] (by rfl) rfl rfl (by (try simp only [List.map_toArray, List.map_cons, List.map_nil]); first | done | (simp only [hji18]; rfl) | rfl | (simp only [List.length_drop, List.length_take]; rfl)) ?_
                      with_reducible refine (serifref12_Look.calls (rd l0 (ji18)) t344 t345 t346 _ A21.out).mono ?_
                      rintro e w25 ⟨rfl, hb⟩
                      refine ⟨_, rfl, ?_⟩
                      have n0_ := Aside0.mk (Kd.R_below (by (with_reducible repeat (first | apply Kd.R_alloc | apply Kd.R_drewN | apply Kd.R_drew)); exact HO_3.out) hb)
                      have n1_ := Aside0.mk (below_step (by repeat (first | (with_reducible first | exact HB.out | apply below_alloc | apply pw_below_drewN | apply below_drew1) | exact HB.out)) hb)
                      clear HO_3
                      clear HB
                      have HO_3 := n0_
                      have HB := n1_
                      clear n0_ n1_
                      (try clear hb)
                      (try clear hb2)
                      (try clear hk)
                      (try clear hi)
                      refine hK.out _ _ ⟨((HB.out.cell (World.block_lt_of_cell? w _ hw339_0)).trans hw339_0), ((HB.out.cell (World.block_lt_of_cell? w _ hw343_0)).trans hw343_0)⟩ (fun hHeld => ?_)
                      clear hK K
                      refine norm_ (a' := ?_) ?_ ?_
                      rotate_left
                      · show Act.put _ (some 37) _ = _
                        simp only [Act.put, List.setIfInBounds_toArray, List.set_cons_zero, List.set_cons_succ, i64_w, i32_w]
                        rfl
                      refine pure_ (i := 12) (N := some 38) (v := ?_) (a' := ?_) #[true, true, true, true, true, true, true, true, true, true, true, true, true, false, false] rfl rfl (any_of HT_.out (by kernel_rfl)) (fun _ _ _ h => h) (Or.inl ⟨by rfl, ?_⟩) ?_ ?_
                      rotate_left
                      · intro w'
                        go_simp
                        with_reducible rfl
                      rotate_left
                      · simp only [Act.put, List.setIfInBounds_toArray, List.set_cons_zero, List.set_cons_succ, i64_w, i32_w]
                        rfl
                      refine pure_ (i := 13) (N := some 5) (v := ?_) (a' := ?_) #[true, true, true, true, true, true, true, true, true, true, true, true, true, true, false] rfl rfl (any_of HT_.out (by kernel_rfl)) (fun _ _ _ h => h) (Or.inl ⟨by rfl, ?_⟩) ?_ ?_
                      rotate_left
                      · intro w'
                        go_simp
                        with_reducible rfl
                      rotate_left
                      · simp only [Act.put, List.setIfInBounds_toArray, List.set_cons_zero, List.set_cons_succ, i64_w, i32_w]
                        rfl
                      refine pure_ (i := 14) (N := some 6) (v := ?_) (a' := ?_) #[true, true, true, true, true, true, true, true, true, true, true, true, true, true, true] rfl rfl (any_of HT_.out (by kernel_rfl)) (fun _ _ _ h => h) (Or.inl ⟨by rfl, ?_⟩) ?_ ?_
                      rotate_left
                      · intro w'
                        go_simp
                        with_reducible rfl
                      rotate_left
                      · simp only [Act.put, List.setIfInBounds_toArray, List.set_cons_zero, List.set_cons_succ, i64_w, i32_w]
                        rfl
                      refine done_ (done_of HT_.out (by kernel_rfl)) ?_
                      go_upto_region 10 with (fail)
                      go_cut [7] (fun v7 wc => ∃ (kq : Nat) (x7_21 : Bool), v7 = .bool x7_21 ∧ Aside0 (seriflaw18_BreaksBlanks.j1 kq l0 t336 x4_1 t342 t346 x7_21 = some r) ∧ Aside0 (kq ≤ k1) ∧ Aside0 (Kd.R (Kd.int .i64) 3 wc w.heap.size (fun _ => True) (.slice Ao13 t336.length co13) t336) ∧ Aside0 (Below w.heap.size w wc))
                      case first =>
                        have H := HC22.out
                        clear HC22
                        by_cases c26 : t342 = 0
                        · rw [if_pos c26] at H
                          have c26b0 : (t342 == 0) = true := beq_iff_eq.mpr c26
                          have c26b1 : (t342 != 0) = false := bne_eq_false_iff_eq.mpr c26
                          clear c26
                          (first | rw [c26b0] | (simp only [i64_w, i32_w]; rw [c26b0]) | skip)
                          by_cases c27 : t346 = 0
                          · rw [if_pos c27] at H
                            have c27b0 : (t346 == 0) = true := beq_iff_eq.mpr c27
                            have c27b1 : (t346 != 0) = false := bne_eq_false_iff_eq.mpr c27
                            clear c27
                            have H' := Aside0.mk H
                            clear H
                            go_wp2
                            go_meet
                            case rel => exact ⟨_, (true), (by first | rfl | (simp; done) | (simp [*]; done)), H', ⟨by have := HK1.out; first | omega | exact Nat.le_refl _⟩, ⟨by (with_reducible repeat (first | apply Kd.R_alloc | apply Kd.R_drewN | apply Kd.R_drew)); exact HO_3.out⟩, ⟨by repeat (first | (with_reducible first | exact HB.out | apply below_alloc | apply pw_below_drewN | apply below_drew1) | exact HB.out)⟩⟩
                          · rw [if_neg c27] at H
                            have c27b0 : (t346 == 0) = false := beq_eq_false_iff_ne.mpr c27
                            have c27b1 : (t346 != 0) = true := bne_iff_ne.mpr c27
                            have H' := Aside0.mk H
                            clear H
                            go_wp2
                            go_meet
                            case rel => exact ⟨_, ((t346 == 17)), (by first | rfl | (simp; done) | (simp [*]; done)), H', ⟨by have := HK1.out; first | omega | exact Nat.le_refl _⟩, ⟨by (with_reducible repeat (first | apply Kd.R_alloc | apply Kd.R_drewN | apply Kd.R_drew)); exact HO_3.out⟩, ⟨by repeat (first | (with_reducible first | exact HB.out | apply below_alloc | apply pw_below_drewN | apply below_drew1) | exact HB.out)⟩⟩
                        · rw [if_neg c26] at H
                          have c26b0 : (t342 == 0) = false := beq_eq_false_iff_ne.mpr c26
                          have c26b1 : (t342 != 0) = true := bne_iff_ne.mpr c26
                          (first | rw [c26b0] | (simp only [i64_w, i32_w]; rw [c26b0]) | skip)
                          by_cases c28 : t342 = 17
                          · rw [if_pos c28] at H
                            have c28b0 : (t342 == 17) = true := beq_iff_eq.mpr c28
                            have c28b1 : (t342 != 17) = false := bne_eq_false_iff_eq.mpr c28
                            clear c28
                            by_cases c29 : t346 = 0
                            · rw [if_pos c29] at H
                              have c29b0 : (t346 == 0) = true := beq_iff_eq.mpr c29
                              have c29b1 : (t346 != 0) = false := bne_eq_false_iff_eq.mpr c29
                              clear c29
                              have H' := Aside0.mk H
                              clear H
                              go_wp2
                              go_meet
                              case rel => exact ⟨_, (true), (by first | rfl | (simp; done) | (simp [*]; done)), H', ⟨by have := HK1.out; first | omega | exact Nat.le_refl _⟩, ⟨by (with_reducible repeat (first | apply Kd.R_alloc | apply Kd.R_drewN | apply Kd.R_drew)); exact HO_3.out⟩, ⟨by repeat (first | (with_reducible first | exact HB.out | apply below_alloc | apply pw_below_drewN | apply below_drew1) | exact HB.out)⟩⟩
                            · rw [if_neg c29] at H
                              have c29b0 : (t346 == 0) = false := beq_eq_false_iff_ne.mpr c29
                              have c29b1 : (t346 != 0) = true := bne_iff_ne.mpr c29
                              have H' := Aside0.mk H
                              clear H
                              go_wp2
                              go_meet
                              case rel => exact ⟨_, ((t346 == 17)), (by first | rfl | (simp; done) | (simp [*]; done)), H', ⟨by have := HK1.out; first | omega | exact Nat.le_refl _⟩, ⟨by (with_reducible repeat (first | apply Kd.R_alloc | apply Kd.R_drewN | apply Kd.R_drew)); exact HO_3.out⟩, ⟨by repeat (first | (with_reducible first | exact HB.out | apply below_alloc | apply pw_below_drewN | apply below_drew1) | exact HB.out)⟩⟩
                          · rw [if_neg c28] at H
                            have c28b0 : (t342 == 17) = false := beq_eq_false_iff_ne.mpr c28
                            have c28b1 : (t342 != 17) = true := bne_iff_ne.mpr c28
                            have H' := Aside0.mk H
                            clear H
                            go_wp2
                            go_meet
                            case rel => exact ⟨_, (false), (by first | rfl | (simp; done) | (simp [*]; done)), H', ⟨by have := HK1.out; first | omega | exact Nat.le_refl _⟩, ⟨by (with_reducible repeat (first | apply Kd.R_alloc | apply Kd.R_drewN | apply Kd.R_drew)); exact HO_3.out⟩, ⟨by repeat (first | (with_reducible first | exact HB.out | apply below_alloc | apply pw_below_drewN | apply below_drew1) | exact HB.out)⟩⟩
                      case rest =>
                        clear HC22
                        try clear c1
                        try clear c2
                        try clear p2
                        try clear c3
                        try clear p3
                        try clear q3
                        try clear hx3
                        try clear c4
                        try clear c6
                        try clear c6b0
                        try clear c6b1
                        try clear c6b2
                        try clear p6
                        try clear c10
                        try clear c14
                        try clear c14b0
                        try clear c15
                        try clear c15b0
                        try clear c16
                        try clear c16b0
                        try clear c17
                        try clear c19
                        try clear c19b0
                        try clear c20
                        try clear c20b0
                        try clear c26
                        try clear c26b0
                        try clear c26b1
                        try clear c27
                        try clear c27b0
                        try clear c27b1
                        try clear c28
                        try clear c28b0
                        try clear c28b1
                        try clear c29
                        try clear c29b0
                        try clear c29b1
                        try clear hx339_0
                        try clear hx343_0
                        try clear p2
                        try clear p339
                        try clear p343
                        try clear q339
                        try clear q343
                        obtain ⟨kq, x7_21, rfl, HA, HJ21, HO_3, HB⟩ := hcut
                        cases kq with
                        | zero => exact absurd HA.out (by simp [seriflaw18_BreaksBlanks.j1])
                        | succ kj21 =>
                          have H := HA.out
                          clear HA
                          simp only [seriflaw18_BreaksBlanks.j1] at H
                          have HC30 := Aside0.mk H
                          clear H
                          go_upto_region 11 with (fail)
                          go_cut [64] (fun v64 wc => ∃ (kq : Nat) (x64_29 : Bool), v64 = .bool x64_29 ∧ Aside0 (seriflaw18_BreaksBlanks.j2 kq l0 t336 x4_1 t342 t346 x7_21 x64_29 = some r) ∧ Aside0 (kq ≤ kj21) ∧ Aside0 (Kd.R (Kd.int .i64) 3 wc w.heap.size (fun _ => True) (.slice Ao13 t336.length co13) t336) ∧ Aside0 (Below w.heap.size w wc))
                          case first =>
                            have H := HC30.out
                            clear HC30
                            by_cases c31 : 0 ≤ x4_1
                            · rw [if_pos c31] at H
                              have c31b0 : decide (0 ≤ x4_1) = true := decide_eq_true c31
                              clear c31
                              (first | rw [c31b0] | (simp only [i64_w, i32_w]; rw [c31b0]) | skip)
                              by_cases c32 : x4_1 < (t336.length : Int)
                              · rw [if_pos c32] at H
                                have c32b0 : decide (x4_1 < (t336.length : Int)) = true := decide_eq_true c32
                                clear c32
                                by_cases c33 : (rd t336 x4_1) = 1
                                · rw [if_pos c33] at H
                                  have c33b0 : ((rd t336 x4_1) == 1) = true := beq_iff_eq.mpr c33
                                  have c33b1 : ((rd t336 x4_1) != 1) = false := bne_eq_false_iff_eq.mpr c33
                                  clear c33
                                  by_cases c34 : t346 = 4
                                  · rw [if_pos c34] at H
                                    have c34b0 : (t346 == 4) = true := beq_iff_eq.mpr c34
                                    have c34b1 : (t346 != 4) = false := bne_eq_false_iff_eq.mpr c34
                                    clear c34
                                    have H' := Aside0.mk H
                                    clear H
                                    have p347 : 0 ≤ (x4_1 : Int) := of_decide_eq_true (by first | (with_reducible assumption) | assumption)
                                    have q347 : x4_1 < (t336.length : Int) := of_decide_eq_true (by first | (with_reducible assumption) | assumption)
                                    obtain ⟨ad347, e347, hx347_0⟩ := Kd.at_int (Kd.R_reads' HO_3.out).2.2 x4_1 p347 q347
                                    cases e347
                                    replace p347 := eq_true p347
                                    replace q347 := eq_true q347
                                    go_wp2
                                    go_meet
                                    case rel => exact ⟨_, (true), (by first | rfl | (simp; done) | (simp [*]; done)), H', ⟨by have := HK1.out; have := HJ21.out; first | omega | exact Nat.le_refl _⟩, ⟨by (with_reducible repeat (first | apply Kd.R_alloc | apply Kd.R_drewN | apply Kd.R_drew)); exact HO_3.out⟩, ⟨by repeat (first | (with_reducible first | exact HB.out | apply below_alloc | apply pw_below_drewN | apply below_drew1) | exact HB.out)⟩⟩
                                  · rw [if_neg c34] at H
                                    have c34b0 : (t346 == 4) = false := beq_eq_false_iff_ne.mpr c34
                                    have c34b1 : (t346 != 4) = true := bne_iff_ne.mpr c34
                                    have H' := Aside0.mk H
                                    clear H
                                    have p347 : 0 ≤ (x4_1 : Int) := of_decide_eq_true (by first | (with_reducible assumption) | assumption)
                                    have q347 : x4_1 < (t336.length : Int) := of_decide_eq_true (by first | (with_reducible assumption) | assumption)
                                    obtain ⟨ad347, e347, hx347_0⟩ := Kd.at_int (Kd.R_reads' HO_3.out).2.2 x4_1 p347 q347
                                    cases e347
                                    replace p347 := eq_true p347
                                    replace q347 := eq_true q347
                                    go_wp2
                                    go_meet
                                    case rel => exact ⟨_, (x7_21), (by first | rfl | (simp; done) | (simp [*]; done)), H', ⟨by have := HK1.out; have := HJ21.out; first | omega | exact Nat.le_refl _⟩, ⟨by (with_reducible repeat (first | apply Kd.R_alloc | apply Kd.R_drewN | apply Kd.R_drew)); exact HO_3.out⟩, ⟨by repeat (first | (with_reducible first | exact HB.out | apply below_alloc | apply pw_below_drewN | apply below_drew1) | exact HB.out)⟩⟩
                                · rw [if_neg c33] at H
                                  have c33b0 : ((rd t336 x4_1) == 1) = false := beq_eq_false_iff_ne.mpr c33
                                  have c33b1 : ((rd t336 x4_1) != 1) = true := bne_iff_ne.mpr c33
                                  have H' := Aside0.mk H
                                  clear H
                                  have p347 : 0 ≤ (x4_1 : Int) := of_decide_eq_true (by first | (with_reducible assumption) | assumption)
                                  have q347 : x4_1 < (t336.length : Int) := of_decide_eq_true (by first | (with_reducible assumption) | assumption)
                                  obtain ⟨ad347, e347, hx347_0⟩ := Kd.at_int (Kd.R_reads' HO_3.out).2.2 x4_1 p347 q347
                                  cases e347
                                  replace p347 := eq_true p347
                                  replace q347 := eq_true q347
                                  go_wp2
                                  go_meet
                                  case rel => exact ⟨_, (false), (by first | rfl | (simp; done) | (simp [*]; done)), H', ⟨by have := HK1.out; have := HJ21.out; first | omega | exact Nat.le_refl _⟩, ⟨by (with_reducible repeat (first | apply Kd.R_alloc | apply Kd.R_drewN | apply Kd.R_drew)); exact HO_3.out⟩, ⟨by repeat (first | (with_reducible first | exact HB.out | apply below_alloc | apply pw_below_drewN | apply below_drew1) | exact HB.out)⟩⟩
                              · rw [if_neg c32] at H
                                exact absurd H (by simp)
                            · rw [if_neg c31] at H
                              exact absurd H (by simp)
                          case rest =>
                            clear HC30
                            try clear c1
                            try clear c2
                            try clear p2
                            try clear c3
                            try clear p3
                            try clear q3
                            try clear hx3
                            try clear c4
                            try clear c6
                            try clear c6b0
                            try clear c6b1
                            try clear c6b2
                            try clear p6
                            try clear c10
                            try clear c14
                            try clear c14b0
                            try clear c15
                            try clear c15b0
                            try clear c16
                            try clear c16b0
                            try clear c17
                            try clear c19
                            try clear c19b0
                            try clear c20
                            try clear c20b0
                            try clear c26
                            try clear c26b0
                            try clear c26b1
                            try clear c27
                            try clear c27b0
                            try clear c27b1
                            try clear c28
                            try clear c28b0
                            try clear c28b1
                            try clear c29
                            try clear c29b0
                            try clear c29b1
                            try clear c31
                            try clear c31b0
                            try clear c32
                            try clear c32b0
                            try clear c33
                            try clear c33b0
                            try clear c33b1
                            try clear p33
                            try clear q33
                            try clear hx33
                            try clear c34
                            try clear c34b0
                            try clear c34b1
                            try clear p34
                            try clear q34
                            try clear hx34
                            try clear hx339_0
                            try clear hx343_0
                            try clear hx347_0
                            try clear p2
                            try clear p3
                            try clear p339
                            try clear p343
                            try clear p347
                            try clear p6
                            try clear q3
                            try clear q339
                            try clear q343
                            try clear q347
                            obtain ⟨kq, x64_29, rfl, HA, HJ29, HO_3, HB⟩ := hcut
                            cases kq with
                            | zero => exact absurd HA.out (by simp [seriflaw18_BreaksBlanks.j2])
                            | succ kj29 =>
                              have H := HA.out
                              clear HA
                              simp only [seriflaw18_BreaksBlanks.j2] at H
                              by_cases c35 : x64_29 = true
                              · subst c35
                                have H1 : (some false) = some r := by rw [if_pos rfl] at H; exact H
                                clear H
                                have H := H1
                                clear H1
                                obtain rfl := Option.some.inj H
                                go_wp2
                                go_ret
                                exact ⟨by first | rfl | (simp [errW_none, errW_some] <;> rfl) | (simp only [← hji18]; first | rfl | (simp [errW_none, errW_some] <;> rfl)) | (simp [*, errW_none, errW_some] <;> rfl), by repeat (first | (with_reducible first | exact HB.out | apply below_alloc | apply pw_below_drewN | apply below_drew1) | exact HB.out)⟩
                              · replace c35 := Bool.eq_false_iff.mpr c35
                                subst c35
                                have H1 : (if 0 ≤ x4_1 then (if x4_1 < (t336.length : Int) then (if (rd t336 x4_1) = 0 then (seriflaw18_BreaksBlanks.l0 kj29 l0 t336 (wrap64 (x4_1 + 1))) else (if x7_21 = true then (some false) else (if t346 = 8 then (if t342 = 0 then (some false) else (if t342 = 17 then (some false) else (if t342 = 8 then (if x4_1 > 0 then (if 0 ≤ (wrap64 (x4_1 - 1)) then (if (wrap64 (x4_1 - 1)) < (t336.length : Int) then (if (rd t336 (wrap64 (x4_1 - 1))) = 0 then (if (wrap64 (x4_1 - 1)) < (l0.length : Int) then ((serifref12_Look.f (rd l0 (wrap64 (x4_1 - 1)))).bind fun bt351 => (if bt351.2.2 = 0 then (some false) else (seriflaw18_BreaksBlanks.l0 kj29 l0 t336 (wrap64 (x4_1 + 1))))) else (none)) else (seriflaw18_BreaksBlanks.l0 kj29 l0 t336 (wrap64 (x4_1 + 1)))) else (none)) else (none)) else (seriflaw18_BreaksBlanks.l0 kj29 l0 t336 (wrap64 (x4_1 + 1)))) else (seriflaw18_BreaksBlanks.l0 kj29 l0 t336 (wrap64 (x4_1 + 1)))))) else (seriflaw18_BreaksBlanks.l0 kj29 l0 t336 (wrap64 (x4_1 + 1)))))) else (none)) else (none)) = some r := by rw [if_neg (show ¬ (false = true) by decide)] at H; exact H
                                clear H
                                have H := H1
                                clear H1
                                by_cases c36 : 0 ≤ x4_1
                                · rw [if_pos c36] at H
                                  have c36b0 : decide (0 ≤ x4_1) = true := decide_eq_true c36
                                  clear c36
                                  by_cases c37 : x4_1 < (t336.length : Int)
                                  · rw [if_pos c37] at H
                                    have c37b0 : decide (x4_1 < (t336.length : Int)) = true := decide_eq_true c37
                                    clear c37
                                    by_cases c38 : (rd t336 x4_1) = 0
                                    · rw [if_pos c38] at H
                                      have c38b0 : ((rd t336 x4_1) == 0) = true := beq_iff_eq.mpr c38
                                      have c38b1 : ((rd t336 x4_1) != 0) = false := bne_eq_false_iff_eq.mpr c38
                                      clear c38
                                      have H' := Aside0.mk H
                                      clear H
                                      have p348 : 0 ≤ (x4_1 : Int) := of_decide_eq_true (by first | (with_reducible assumption) | assumption)
                                      have q348 : x4_1 < (t336.length : Int) := of_decide_eq_true (by first | (with_reducible assumption) | assumption)
                                      obtain ⟨ad348, e348, hx348_0⟩ := Kd.at_int (Kd.R_reads' HO_3.out).2.2 x4_1 p348 q348
                                      cases e348
                                      replace p348 := eq_true p348
                                      replace q348 := eq_true q348
                                      go_wp2
                                      go_roundg kj29
                                      case measure => have := HK1.out; have := HJ21.out; have := HJ29.out; omega
                                      case rel => exact ⟨(wrap64 (x4_1 + 1)), (by first | rfl | (simp; done) | (simp [*]; done)), H', ⟨by have := HK1.out; have := HJ21.out; have := HJ29.out; omega⟩, ⟨by (with_reducible repeat (first | apply Kd.R_alloc | apply Kd.R_drewN | apply Kd.R_drew)); exact HO_3.out⟩, ⟨by repeat (first | (with_reducible first | exact HB.out | apply below_alloc | apply pw_below_drewN | apply below_drew1) | exact HB.out)⟩⟩
                                    · rw [if_neg c38] at H
                                      have c38b0 : ((rd t336 x4_1) == 0) = false := beq_eq_false_iff_ne.mpr c38
                                      have c38b1 : ((rd t336 x4_1) != 0) = true := bne_iff_ne.mpr c38
                                      by_cases c39 : x7_21 = true
                                      · subst c39
                                        have H1 : (some false) = some r := by rw [if_pos rfl] at H; exact H
                                        clear H
                                        have H := H1
                                        clear H1
                                        obtain rfl := Option.some.inj H
                                        have p348 : 0 ≤ (x4_1 : Int) := of_decide_eq_true (by first | (with_reducible assumption) | assumption)
                                        have q348 : x4_1 < (t336.length : Int) := of_decide_eq_true (by first | (with_reducible assumption) | assumption)
                                        obtain ⟨ad348, e348, hx348_0⟩ := Kd.at_int (Kd.R_reads' HO_3.out).2.2 x4_1 p348 q348
                                        cases e348
                                        replace p348 := eq_true p348
                                        replace q348 := eq_true q348
                                        go_wp2
                                        go_ret
                                        exact ⟨by first | rfl | (simp [errW_none, errW_some] <;> rfl) | (simp only [← hji18]; first | rfl | (simp [errW_none, errW_some] <;> rfl)) | (simp [*, errW_none, errW_some] <;> rfl), by repeat (first | (with_reducible first | exact HB.out | apply below_alloc | apply pw_below_drewN | apply below_drew1) | exact HB.out)⟩
                                      · replace c39 := Bool.eq_false_iff.mpr c39
                                        subst c39
                                        have H1 : (if t346 = 8 then (if t342 = 0 then (some false) else (if t342 = 17 then (some false) else (if t342 = 8 then (if x4_1 > 0 then (if 0 ≤ (wrap64 (x4_1 - 1)) then (if (wrap64 (x4_1 - 1)) < (t336.length : Int) then (if (rd t336 (wrap64 (x4_1 - 1))) = 0 then (if (wrap64 (x4_1 - 1)) < (l0.length : Int) then ((serifref12_Look.f (rd l0 (wrap64 (x4_1 - 1)))).bind fun bt351 => (if bt351.2.2 = 0 then (some false) else (seriflaw18_BreaksBlanks.l0 kj29 l0 t336 (wrap64 (x4_1 + 1))))) else (none)) else (seriflaw18_BreaksBlanks.l0 kj29 l0 t336 (wrap64 (x4_1 + 1)))) else (none)) else (none)) else (seriflaw18_BreaksBlanks.l0 kj29 l0 t336 (wrap64 (x4_1 + 1)))) else (seriflaw18_BreaksBlanks.l0 kj29 l0 t336 (wrap64 (x4_1 + 1)))))) else (seriflaw18_BreaksBlanks.l0 kj29 l0 t336 (wrap64 (x4_1 + 1)))) = some r := by rw [if_neg (show ¬ (false = true) by decide)] at H; exact H
                                        clear H
                                        have H := H1
                                        clear H1
                                        by_cases c40 : t346 = 8
                                        · rw [if_pos c40] at H
                                          have c40b0 : (t346 == 8) = true := beq_iff_eq.mpr c40
                                          have c40b1 : (t346 != 8) = false := bne_eq_false_iff_eq.mpr c40
                                          clear c40
                                          by_cases c41 : t342 = 0
                                          · rw [if_pos c41] at H
                                            have c41b0 : (t342 == 0) = true := beq_iff_eq.mpr c41
                                            have c41b1 : (t342 != 0) = false := bne_eq_false_iff_eq.mpr c41
                                            clear c41
                                            obtain rfl := Option.some.inj H
                                            have p348 : 0 ≤ (x4_1 : Int) := of_decide_eq_true (by first | (with_reducible assumption) | assumption)
                                            have q348 : x4_1 < (t336.length : Int) := of_decide_eq_true (by first | (with_reducible assumption) | assumption)
                                            obtain ⟨ad348, e348, hx348_0⟩ := Kd.at_int (Kd.R_reads' HO_3.out).2.2 x4_1 p348 q348
                                            cases e348
                                            replace p348 := eq_true p348
                                            replace q348 := eq_true q348
                                            go_wp2
                                            go_ret
                                            exact ⟨by first | rfl | (simp [errW_none, errW_some] <;> rfl) | (simp only [← hji18]; first | rfl | (simp [errW_none, errW_some] <;> rfl)) | (simp [*, errW_none, errW_some] <;> rfl), by repeat (first | (with_reducible first | exact HB.out | apply below_alloc | apply pw_below_drewN | apply below_drew1) | exact HB.out)⟩
                                          · rw [if_neg c41] at H
                                            have c41b0 : (t342 == 0) = false := beq_eq_false_iff_ne.mpr c41
                                            have c41b1 : (t342 != 0) = true := bne_iff_ne.mpr c41
                                            by_cases c42 : t342 = 17
                                            · rw [if_pos c42] at H
                                              have c42b0 : (t342 == 17) = true := beq_iff_eq.mpr c42
                                              have c42b1 : (t342 != 17) = false := bne_eq_false_iff_eq.mpr c42
                                              clear c42
                                              obtain rfl := Option.some.inj H
                                              have p348 : 0 ≤ (x4_1 : Int) := of_decide_eq_true (by first | (with_reducible assumption) | assumption)
                                              have q348 : x4_1 < (t336.length : Int) := of_decide_eq_true (by first | (with_reducible assumption) | assumption)
                                              obtain ⟨ad348, e348, hx348_0⟩ := Kd.at_int (Kd.R_reads' HO_3.out).2.2 x4_1 p348 q348
                                              cases e348
                                              replace p348 := eq_true p348
                                              replace q348 := eq_true q348
                                              go_wp2
                                              go_ret
                                              exact ⟨by first | rfl | (simp [errW_none, errW_some] <;> rfl) | (simp only [← hji18]; first | rfl | (simp [errW_none, errW_some] <;> rfl)) | (simp [*, errW_none, errW_some] <;> rfl), by repeat (first | (with_reducible first | exact HB.out | apply below_alloc | apply pw_below_drewN | apply below_drew1) | exact HB.out)⟩
                                            · rw [if_neg c42] at H
                                              have c42b0 : (t342 == 17) = false := beq_eq_false_iff_ne.mpr c42
                                              have c42b1 : (t342 != 17) = true := bne_iff_ne.mpr c42
                                              by_cases c43 : t342 = 8
                                              · rw [if_pos c43] at H
                                                have c43b0 : (t342 == 8) = true := beq_iff_eq.mpr c43
                                                have c43b1 : (t342 != 8) = false := bne_eq_false_iff_eq.mpr c43
                                                clear c43
                                                by_cases c44 : x4_1 > 0
                                                · rw [if_pos c44] at H
                                                  have c44b0 : decide (0 < x4_1) = true := decide_eq_true c44
                                                  clear c44
                                                  obtain ⟨ji45, hji45⟩ : ∃ j_ : Int, (wrap64 (x4_1 - 1)) = j_ := ⟨_, rfl⟩
                                                  replace H : (if 0 ≤ (ji45) then (if (ji45) < (t336.length : Int) then (if (rd t336 (ji45)) = 0 then (if (ji45) < (l0.length : Int) then ((serifref12_Look.f (rd l0 (ji45))).bind fun bt351 => (if bt351.2.2 = 0 then (some false) else (seriflaw18_BreaksBlanks.l0 kj29 l0 t336 (wrap64 (x4_1 + 1))))) else (none)) else (seriflaw18_BreaksBlanks.l0 kj29 l0 t336 (wrap64 (x4_1 + 1)))) else (none)) else (none)) = some r := by first | (rw [hji45] at H; exact H) | (simp only [hji45] at H ⊢; exact H)
                                                  have hji45w : (IntKind.i64.wrap (x4_1 - 1)) = ji45 := (i64_w _).trans hji45
                                                  by_cases c46 : 0 ≤ (ji45)
                                                  · rw [if_pos c46] at H
                                                    have c46b0 : decide (0 ≤ (ji45)) = true := decide_eq_true c46
                                                    clear c46
                                                    by_cases c47 : (ji45) < (t336.length : Int)
                                                    · rw [if_pos c47] at H
                                                      have c47b0 : decide ((ji45) < (t336.length : Int)) = true := decide_eq_true c47
                                                      clear c47
                                                      by_cases c48 : (rd t336 (ji45)) = 0
                                                      · rw [if_pos c48] at H
                                                        have c48b0 : ((rd t336 (ji45)) == 0) = true := beq_iff_eq.mpr c48
                                                        have c48b1 : ((rd t336 (ji45)) != 0) = false := bne_eq_false_iff_eq.mpr c48
                                                        clear c48
                                                        by_cases c49 : (ji45) < (l0.length : Int)
                                                        · rw [if_pos c49] at H
                                                          have c49b0 : decide ((ji45) < (l0.length : Int)) = true := decide_eq_true c49
                                                          clear c49
                                                          replace H := Option.bind_eq_some_iff.mp H
                                                          obtain ⟨⟨t351, t352, t353⟩, A500, H⟩ := H
                                                          replace H : (if t353 = 0 then (some false) else (seriflaw18_BreaksBlanks.l0 kj29 l0 t336 (wrap64 (x4_1 + 1)))) = some r := H
                                                          have A50 := Aside0.mk A500
                                                          clear A500
                                                          by_cases c51 : t353 = 0
                                                          · rw [if_pos c51] at H
                                                            have c51b0 : (t353 == 0) = true := beq_iff_eq.mpr c51
                                                            have c51b1 : (t353 != 0) = false := bne_eq_false_iff_eq.mpr c51
                                                            clear c51
                                                            obtain rfl := Option.some.inj H
                                                            have p348 : 0 ≤ (x4_1 : Int) := of_decide_eq_true (by first | (with_reducible assumption) | assumption)
                                                            have q348 : x4_1 < (t336.length : Int) := of_decide_eq_true (by first | (with_reducible assumption) | assumption)
                                                            obtain ⟨ad348, e348, hx348_0⟩ := Kd.at_int (Kd.R_reads' HO_3.out).2.2 x4_1 p348 q348
                                                            cases e348
                                                            replace p348 := eq_true p348
                                                            replace q348 := eq_true q348
                                                            have p349 : 0 ≤ ((ji45) : Int) := of_decide_eq_true (by first | (with_reducible assumption) | assumption)
                                                            have q349 : (ji45) < (t336.length : Int) := of_decide_eq_true (by first | (with_reducible assumption) | assumption)
                                                            obtain ⟨ad349, e349, hx349_0⟩ := Kd.at_int (Kd.R_reads' HO_3.out).2.2 (ji45) p349 q349
                                                            obtain rfl : ad348 = ad349 := (by injection e349)
                                                            replace p349 := eq_true p349
                                                            replace q349 := eq_true q349
                                                            have p350 : 0 ≤ ((ji45) : Int) := of_decide_eq_true (by first | (with_reducible assumption) | assumption)
                                                            have q350 : (ji45) < (l0.length : Int) := of_decide_eq_true (by first | (with_reducible assumption) | assumption)
                                                            obtain ⟨ad350, e350, hx350_0⟩ := Kd.at_int HR0.out (ji45) p350 q350
                                                            obtain rfl : ad339 = ad350 := (by injection e350)
                                                            replace hx350_0 := (HB.out.cell (World.block_lt_of_cell? w _ hx350_0)).trans hx350_0
                                                            replace p350 := eq_true p350
                                                            replace q350 := eq_true q350
                                                            go_wp2_with (first | (go_at_call 17; (with_reducible refine (serifref12_Look.calls (rd l0 (ji45)) t351 t352 t353 _ A50.out).mono ?_); rintro e w52 ⟨rfl, hb⟩; have n0_ := Aside0.mk (Kd.R_below (by (with_reducible repeat (first | apply Kd.R_alloc | apply Kd.R_drewN | apply Kd.R_drew)); exact HO_3.out) hb); have n1_ := Aside0.mk (below_step (by repeat (first | (with_reducible first | exact HB.out | apply below_alloc | apply pw_below_drewN | apply below_drew1) | exact HB.out)) hb); clear HO_3; clear HB; have HO_3 := n0_; have HB := n1_; clear n0_ n1_; (try clear hb); (try clear hb2); (try clear hk); (try clear hi)))
                                                            go_ret
                                                            exact ⟨by first | rfl | (simp [errW_none, errW_some] <;> rfl) | (simp only [← hji18, ← hji45]; first | rfl | (simp [errW_none, errW_some] <;> rfl)) | (simp [*, errW_none, errW_some] <;> rfl), by repeat (first | (with_reducible first | exact HB.out | apply below_alloc | apply pw_below_drewN | apply below_drew1) | exact HB.out)⟩
                                                          · rw [if_neg c51] at H
                                                            have c51b0 : (t353 == 0) = false := beq_eq_false_iff_ne.mpr c51
                                                            have c51b1 : (t353 != 0) = true := bne_iff_ne.mpr c51
                                                            have H' := Aside0.mk H
                                                            clear H
                                                            have p348 : 0 ≤ (x4_1 : Int) := of_decide_eq_true (by first | (with_reducible assumption) | assumption)
                                                            have q348 : x4_1 < (t336.length : Int) := of_decide_eq_true (by first | (with_reducible assumption) | assumption)
                                                            obtain ⟨ad348, e348, hx348_0⟩ := Kd.at_int (Kd.R_reads' HO_3.out).2.2 x4_1 p348 q348
                                                            cases e348
                                                            replace p348 := eq_true p348
                                                            replace q348 := eq_true q348
                                                            have p349 : 0 ≤ ((ji45) : Int) := of_decide_eq_true (by first | (with_reducible assumption) | assumption)
                                                            have q349 : (ji45) < (t336.length : Int) := of_decide_eq_true (by first | (with_reducible assumption) | assumption)
                                                            obtain ⟨ad349, e349, hx349_0⟩ := Kd.at_int (Kd.R_reads' HO_3.out).2.2 (ji45) p349 q349
                                                            obtain rfl : ad348 = ad349 := (by injection e349)
                                                            replace p349 := eq_true p349
                                                            replace q349 := eq_true q349
                                                            have p350 : 0 ≤ ((ji45) : Int) := of_decide_eq_true (by first | (with_reducible assumption) | assumption)
                                                            have q350 : (ji45) < (l0.length : Int) := of_decide_eq_true (by first | (with_reducible assumption) | assumption)
                                                            obtain ⟨ad350, e350, hx350_0⟩ := Kd.at_int HR0.out (ji45) p350 q350
                                                            obtain rfl : ad339 = ad350 := (by injection e350)
                                                            replace hx350_0 := (HB.out.cell (World.block_lt_of_cell? w _ hx350_0)).trans hx350_0
                                                            replace p350 := eq_true p350
                                                            replace q350 := eq_true q350
                                                            go_wp2_with (first | (go_at_call 17; (with_reducible refine (serifref12_Look.calls (rd l0 (ji45)) t351 t352 t353 _ A50.out).mono ?_); rintro e w53 ⟨rfl, hb⟩; have n0_ := Aside0.mk (Kd.R_below (by (with_reducible repeat (first | apply Kd.R_alloc | apply Kd.R_drewN | apply Kd.R_drew)); exact HO_3.out) hb); have n1_ := Aside0.mk (below_step (by repeat (first | (with_reducible first | exact HB.out | apply below_alloc | apply pw_below_drewN | apply below_drew1) | exact HB.out)) hb); clear HO_3; clear HB; have HO_3 := n0_; have HB := n1_; clear n0_ n1_; (try clear hb); (try clear hb2); (try clear hk); (try clear hi)))
                                                            go_roundg kj29
                                                            case measure => have := HK1.out; have := HJ21.out; have := HJ29.out; omega
                                                            case rel => exact ⟨(wrap64 (x4_1 + 1)), (by first | rfl | (simp; done) | (simp [*]; done)), H', ⟨by have := HK1.out; have := HJ21.out; have := HJ29.out; omega⟩, ⟨by (with_reducible repeat (first | apply Kd.R_alloc | apply Kd.R_drewN | apply Kd.R_drew)); exact HO_3.out⟩, ⟨by repeat (first | (with_reducible first | exact HB.out | apply below_alloc | apply pw_below_drewN | apply below_drew1) | exact HB.out)⟩⟩
                                                        · rw [if_neg c49] at H
                                                          exact absurd H (by simp)
                                                      · rw [if_neg c48] at H
                                                        have c48b0 : ((rd t336 (ji45)) == 0) = false := beq_eq_false_iff_ne.mpr c48
                                                        have c48b1 : ((rd t336 (ji45)) != 0) = true := bne_iff_ne.mpr c48
                                                        have H' := Aside0.mk H
                                                        clear H
                                                        have p348 : 0 ≤ (x4_1 : Int) := of_decide_eq_true (by first | (with_reducible assumption) | assumption)
                                                        have q348 : x4_1 < (t336.length : Int) := of_decide_eq_true (by first | (with_reducible assumption) | assumption)
                                                        obtain ⟨ad348, e348, hx348_0⟩ := Kd.at_int (Kd.R_reads' HO_3.out).2.2 x4_1 p348 q348
                                                        cases e348
                                                        replace p348 := eq_true p348
                                                        replace q348 := eq_true q348
                                                        have p349 : 0 ≤ ((ji45) : Int) := of_decide_eq_true (by first | (with_reducible assumption) | assumption)
                                                        have q349 : (ji45) < (t336.length : Int) := of_decide_eq_true (by first | (with_reducible assumption) | assumption)
                                                        obtain ⟨ad349, e349, hx349_0⟩ := Kd.at_int (Kd.R_reads' HO_3.out).2.2 (ji45) p349 q349
                                                        obtain rfl : ad348 = ad349 := (by injection e349)
                                                        replace p349 := eq_true p349
                                                        replace q349 := eq_true q349
                                                        go_wp2
                                                        go_roundg kj29
                                                        case measure => have := HK1.out; have := HJ21.out; have := HJ29.out; omega
                                                        case rel => exact ⟨(wrap64 (x4_1 + 1)), (by first | rfl | (simp; done) | (simp [*]; done)), H', ⟨by have := HK1.out; have := HJ21.out; have := HJ29.out; omega⟩, ⟨by (with_reducible repeat (first | apply Kd.R_alloc | apply Kd.R_drewN | apply Kd.R_drew)); exact HO_3.out⟩, ⟨by repeat (first | (with_reducible first | exact HB.out | apply below_alloc | apply pw_below_drewN | apply below_drew1) | exact HB.out)⟩⟩
                                                    · rw [if_neg c47] at H
                                                      exact absurd H (by simp)
                                                  · rw [if_neg c46] at H
                                                    exact absurd H (by simp)
                                                · rw [if_neg c44] at H
                                                  have c44b0 : decide (0 < x4_1) = false := decide_eq_false c44
                                                  clear c44
                                                  have H' := Aside0.mk H
                                                  clear H
                                                  have p348 : 0 ≤ (x4_1 : Int) := of_decide_eq_true (by first | (with_reducible assumption) | assumption)
                                                  have q348 : x4_1 < (t336.length : Int) := of_decide_eq_true (by first | (with_reducible assumption) | assumption)
                                                  obtain ⟨ad348, e348, hx348_0⟩ := Kd.at_int (Kd.R_reads' HO_3.out).2.2 x4_1 p348 q348
                                                  cases e348
                                                  replace p348 := eq_true p348
                                                  replace q348 := eq_true q348
                                                  go_wp2
                                                  go_roundg kj29
                                                  case measure => have := HK1.out; have := HJ21.out; have := HJ29.out; omega
                                                  case rel => exact ⟨(wrap64 (x4_1 + 1)), (by first | rfl | (simp; done) | (simp [*]; done)), H', ⟨by have := HK1.out; have := HJ21.out; have := HJ29.out; omega⟩, ⟨by (with_reducible repeat (first | apply Kd.R_alloc | apply Kd.R_drewN | apply Kd.R_drew)); exact HO_3.out⟩, ⟨by repeat (first | (with_reducible first | exact HB.out | apply below_alloc | apply pw_below_drewN | apply below_drew1) | exact HB.out)⟩⟩
                                              · rw [if_neg c43] at H
                                                have c43b0 : (t342 == 8) = false := beq_eq_false_iff_ne.mpr c43
                                                have c43b1 : (t342 != 8) = true := bne_iff_ne.mpr c43
                                                have H' := Aside0.mk H
                                                clear H
                                                have p348 : 0 ≤ (x4_1 : Int) := of_decide_eq_true (by first | (with_reducible assumption) | assumption)
                                                have q348 : x4_1 < (t336.length : Int) := of_decide_eq_true (by first | (with_reducible assumption) | assumption)
                                                obtain ⟨ad348, e348, hx348_0⟩ := Kd.at_int (Kd.R_reads' HO_3.out).2.2 x4_1 p348 q348
                                                cases e348
                                                replace p348 := eq_true p348
                                                replace q348 := eq_true q348
                                                go_wp2
                                                go_roundg kj29
                                                case measure => have := HK1.out; have := HJ21.out; have := HJ29.out; omega
                                                case rel => exact ⟨(wrap64 (x4_1 + 1)), (by first | rfl | (simp; done) | (simp [*]; done)), H', ⟨by have := HK1.out; have := HJ21.out; have := HJ29.out; omega⟩, ⟨by (with_reducible repeat (first | apply Kd.R_alloc | apply Kd.R_drewN | apply Kd.R_drew)); exact HO_3.out⟩, ⟨by repeat (first | (with_reducible first | exact HB.out | apply below_alloc | apply pw_below_drewN | apply below_drew1) | exact HB.out)⟩⟩
                                        · rw [if_neg c40] at H
                                          have c40b0 : (t346 == 8) = false := beq_eq_false_iff_ne.mpr c40
                                          have c40b1 : (t346 != 8) = true := bne_iff_ne.mpr c40
                                          have H' := Aside0.mk H
                                          clear H
                                          have p348 : 0 ≤ (x4_1 : Int) := of_decide_eq_true (by first | (with_reducible assumption) | assumption)
                                          have q348 : x4_1 < (t336.length : Int) := of_decide_eq_true (by first | (with_reducible assumption) | assumption)
                                          obtain ⟨ad348, e348, hx348_0⟩ := Kd.at_int (Kd.R_reads' HO_3.out).2.2 x4_1 p348 q348
                                          cases e348
                                          replace p348 := eq_true p348
                                          replace q348 := eq_true q348
                                          go_wp2
                                          go_roundg kj29
                                          case measure => have := HK1.out; have := HJ21.out; have := HJ29.out; omega
                                          case rel => exact ⟨(wrap64 (x4_1 + 1)), (by first | rfl | (simp; done) | (simp [*]; done)), H', ⟨by have := HK1.out; have := HJ21.out; have := HJ29.out; omega⟩, ⟨by (with_reducible repeat (first | apply Kd.R_alloc | apply Kd.R_drewN | apply Kd.R_drew)); exact HO_3.out⟩, ⟨by repeat (first | (with_reducible first | exact HB.out | apply below_alloc | apply pw_below_drewN | apply below_drew1) | exact HB.out)⟩⟩
                                  · rw [if_neg c37] at H
                                    exact absurd H (by simp)
                                · rw [if_neg c36] at H
                                  exact absurd H (by simp)
                    · rw [if_neg c20] at H
                      exact absurd H (by simp)
                  · rw [if_neg c19] at H
                    exact absurd H (by simp)
                · rw [if_neg c16] at H
                  exact absurd H (by simp)
              · rw [if_neg c15] at H
                exact absurd H (by simp)
            · rw [if_neg c14] at H
              have c14b0 : decide (x4_1 < (wrap64 ((l0.length : Int) - 1))) = false := decide_eq_false c14
              clear c14
              obtain rfl := Option.some.inj H
              go_wp2
              go_ret
              exact ⟨by first | rfl | (simp [errW_none, errW_some] <;> rfl) | (simp [*, errW_none, errW_some] <;> rfl), by repeat (first | (with_reducible first | exact HB.out | apply below_alloc | apply pw_below_drewN | apply below_drew1) | exact HB.out)⟩
      · rw [if_neg c6] at H
        have c6b0 : ((t336.length : Int) == (l0.length : Int)) = false := beq_eq_false_iff_ne.mpr c6
        have c6b1 : ((t336.length : Int) != (l0.length : Int)) = true := bne_iff_ne.mpr c6
        have c6b2 : (t336.length == l0.length) = false := by first | simpa using c6 | (simp at c6 ⊢; omega)
        obtain rfl := Option.some.inj H
        have hfd24_2 : ∀ (f0_ : Int) (f1_ : Int) (f2_ : Int) (w : World), (Instr.field 24 (.agg #[.int .i64 f0_, .int .i64 f1_, .int .i64 f2_]) 2).run Try.prog w = .ok (.int .i64 f2_) w := fun _ _ _  _ => by kernel_rfl
        go_enter Try.func10, Try.ntmps10
        go_wp2_with (first | ((with_reducible refine gate_callee (f := 27) rfl ?_); refine goesL_ (some 8) rfl rfl Try.func27 (by kernel_rfl) rfl #[] rfl (by (try simp only [List.map_toArray, List.map_cons, List.map_nil]); first | done | rfl | (simp only [List.length_drop, List.length_take]; rfl)) ?_; (with_reducible refine (seriflaw18_breaksAlive.calls k  true _ A2.out).mono ?_); rintro e w54 ⟨rfl, hb⟩; refine ⟨_, rfl, ?_⟩; have n0_ := Aside0.mk (below_step (by repeat (first | (with_reducible first | exact HB.out | apply below_alloc | apply pw_below_drewN | apply below_drew1) | exact HB.out)) hb); clear HB; have HB := n0_; clear n0_; (try clear hb); (try clear hb2); (try clear hk); (try clear hi)) | ((with_reducible refine gate_dst (N := 10) rfl ?_); refine Kd.R_lit (Kd.int .i64) _ 3 ?hg (N := 10) ?hd (xs := ([] : List Int)) (inner := []) (ok := fun _ => True) (okp := fun _ => True) ?hr ?hp (fun _ hk => hk) trivial (Below.refl _ _) (Nat.le_refl _) (by simp) ?_; (case hd => rfl); (case hg => rfl); (case hr => first | (go_simp; done) | (go_simp; rfl)); (case hp => exact (Reps.none _ _)); intro v331 w55 ho56 hb hg_ hnew_; clear hg_ hnew_; (first | rw [← Ny330.out] at ho56 | (simp only [Int.reduceToNat] at ho56; rw [← Ny330.out] at ho56)); have n0_ := Aside0.mk (Kd.R_lower ho56 (below_size (by repeat (first | (with_reducible first | exact HB.out | apply below_alloc | apply pw_below_drewN | apply below_drew1) | exact HB.out)))); have n1_ := Aside0.mk (below_step (by repeat (first | (with_reducible first | exact HB.out | apply below_alloc | apply pw_below_drewN | apply below_drew1) | exact HB.out)) hb); clear HB; have HO332 := n0_; have HB := n1_; clear n0_ n1_; clear hb ho56) | ((with_reducible refine gate_builtin (b := .append) (xs := #[.tmp 10, .tmp 11]) rfl ?_); at_builtin; refine Kd.R_append_rows (Kd.int .i64) (w0 := w) w.heap.size rfl (.tmp 10) (.tmp 11) 45 3 (.int .i64 0) 8 rfl Try.underlying45 info3 rfl (by decide) (by omega) v331 y330 l0 _ _ _ (fun _ => True) (fun _ => False) rfl rfl ?aO ?aR (fun _ _ h => h) (fun _ h => h.elim) ?aF ?aB ?aS ?aL ?_; (case aR => repeat (first | exact (Kd.C_below HR0.out HB.out) | (with_reducible refine Kd.C_alloc ?_ _) | (with_reducible refine Kd.C_drewN ?_ _) | (with_reducible refine Kd.C_drew ?_))); (case aB => exact (by repeat (first | (with_reducible first | exact HB.out | apply below_alloc | apply pw_below_drewN | apply below_drew1) | exact HB.out))); (case aF => exact (fun _ _ => trivial)); (case aO => exact (by (with_reducible repeat (first | apply Kd.R_alloc | apply Kd.R_drewN | apply Kd.R_drew)); exact HO332.out)); (case aS => exact (below_size (by repeat (first | (with_reducible first | exact HB.out | apply below_alloc | apply pw_below_drewN | apply below_drew1) | exact HB.out)))); (case aL => have := LMc4.out; omega); intro v334 w57 ho hb hg hat; rw [← Ny333.out] at ho; have n0_ := Aside0.mk (hb); have n1_ := Aside0.mk (ho); clear HB; clear HO332; have HB := n0_; have HO335 := n1_; clear n0_ n1_; clear ho hb hg hat; obtain ⟨Ao58, co58, eo58⟩ := Kd.R_slice HO335.out; subst eo58) | ((with_reducible refine gate_callee (f := 29) rfl ?_); refine goesL_ (some 13) rfl rfl Try.func29 (by kernel_rfl) rfl #[.slice Ao58 y333.length co58] rfl (by (try simp only [List.map_toArray, List.map_cons, List.map_nil]); first | done | rfl | (simp only [List.length_drop, List.length_take]; rfl)) ?_; (with_reducible refine (breaks_Breaks.calls k _ _ y333 t336 _ ?side1 ?side2 A5.out).mono ?_); (case side1 => repeat (first | exact (Kd.R_reads' HO335.out).2.2 | (with_reducible refine Kd.C_alloc ?_ _) | (with_reducible refine Kd.C_drewN ?_ _) | (with_reducible refine Kd.C_drew ?_))); (case side2 => exact (Kd.R_reads' HO335.out).2.1); rintro e w59 ⟨v337, rfl, ho0, hb⟩; refine ⟨_, rfl, ?_⟩; have n0_ := Aside0.mk (Kd.R_elder' (by (with_reducible repeat (first | apply Kd.R_alloc | apply Kd.R_drewN | apply Kd.R_drew)); exact HO335.out) (Kd.R_base ho0) hb); have n1_ := Aside0.mk (Kd.R_lower (Kd.R_new' ho0 (Kd.R_lt (by (with_reducible repeat (first | apply Kd.R_alloc | apply Kd.R_drewN | apply Kd.R_drew)); exact HO335.out))) (below_size (by repeat (first | (with_reducible first | exact HB.out | apply below_alloc | apply pw_below_drewN | apply below_drew1) | exact HB.out)))); have n2_ := Aside0.mk (below_step (by repeat (first | (with_reducible first | exact HB.out | apply below_alloc | apply pw_below_drewN | apply below_drew1) | exact HB.out)) hb); clear HO335; clear HB; have HO335 := n0_; have HO338 := n1_; have HB := n2_; clear n0_ n1_ n2_; (try clear hb); (try clear hb2); (try clear hk); (try clear hi); (try clear ho0); obtain ⟨Ao60, co60, eo60⟩ := Kd.R_slice HO338.out; subst eo60))
        go_ret
        exact ⟨by first | rfl | (simp [errW_none, errW_some] <;> rfl) | (simp [*, errW_none, errW_some] <;> rfl), by repeat (first | (with_reducible first | exact HB.out | apply below_alloc | apply pw_below_drewN | apply below_drew1) | exact HB.out)⟩
    · rw [if_neg c4] at H
      exact absurd H (by simp)
  · replace c3 := Bool.eq_false_iff.mpr c3
    subst c3
    have H1 : (some false) = some r := by rw [if_neg (show ¬ (false = true) by decide)] at H; exact H
    clear H
    have H := H1
    clear H1
    obtain rfl := Option.some.inj H
    have hfd24_2 : ∀ (f0_ : Int) (f1_ : Int) (f2_ : Int) (w : World), (Instr.field 24 (.agg #[.int .i64 f0_, .int .i64 f1_, .int .i64 f2_]) 2).run Try.prog w = .ok (.int .i64 f2_) w := fun _ _ _  _ => by kernel_rfl
    go_enter Try.func10, Try.ntmps10
    go_wp2_with (first | ((with_reducible refine gate_callee (f := 27) rfl ?_); refine goesL_ (some 8) rfl rfl Try.func27 (by kernel_rfl) rfl #[] rfl (by (try simp only [List.map_toArray, List.map_cons, List.map_nil]); first | done | rfl | (simp only [List.length_drop, List.length_take]; rfl)) ?_; (with_reducible refine (seriflaw18_breaksAlive.calls k  false _ A2.out).mono ?_); rintro e w61 ⟨rfl, hb⟩; refine ⟨_, rfl, ?_⟩; have n0_ := Aside0.mk (below_step (by repeat (first | (with_reducible first | exact HB.out | apply below_alloc | apply pw_below_drewN | apply below_drew1) | exact HB.out)) hb); clear HB; have HB := n0_; clear n0_; (try clear hb); (try clear hb2); (try clear hk); (try clear hi)))
    go_ret
    exact ⟨by first | rfl | (simp [errW_none, errW_some] <;> rfl) | (simp [*, errW_none, errW_some] <;> rfl), by repeat (first | (with_reducible first | exact HB.out | apply below_alloc | apply pw_below_drewN | apply below_drew1) | exact HB.out)⟩

/-- THE ONE PURE STATEMENT of seriflaw18_BreaksBlanks: yours. -/
def seriflaw18_BreaksBlanks.Pure : Prop := ∀ (l0 : List Int), l0.length ≤ maxLen → l0.length * 8 ≤ 140737488351232 → (∀ x ∈ l0, (Lit.int .i64 x).wf = true) → ∃ k, seriflaw18_BreaksBlanks.f k l0 = some true
theorem seriflaw18_BreaksBlanks.walk (P : seriflaw18_BreaksBlanks.Pure) (a0 : Option Addr) (len0 cap0 : Nat) (z0 : List Int) (w : World) (w0 : (a0 = none ∧ len0 = 0 ∧ cap0 = 0 ∧ z0 = []) ∨ ∃ x, a0 = some x ∧ len0 ≤ cap0 ∧ cap0 ≤ maxLen ∧ z0.length = cap0 ∧ (∀ i, i < z0.length → w.cell? (x.add i) = some (.int .i64 (z0.getD i 0))) ∧ ∀ n ∈ z0, (Lit.int .i64 n).wf = true) (y0 : len0 * 8 ≤ 140737488351232) :
    Calls Try.prog 10 #[.slice a0 len0 cap0] w fun e w' => e = .returned (.bool true) ∧ Below w.heap.size w w' := by
  obtain ⟨l0, rfl, hr0, hm0, hw0, hc0⟩ := ReadsInt.ofRowC w0
  obtain ⟨k, h⟩ := P l0 hm0 y0 hw0
  refine (seriflaw18_BreaksBlanks.calls k _ _ l0 true w (Kd.C_of_reads (d := (0 : Int)) (h1 := fun _ => rfl) hr0) hc0 h).mono ?_
  rintro e w' ⟨rfl, hd⟩
  exact ⟨rfl, hd⟩

end Go.Proofs.Ytplnaannfnhhgab.P
