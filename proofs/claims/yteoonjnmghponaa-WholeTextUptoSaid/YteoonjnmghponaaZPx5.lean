/- The plain functions of some Go functions and the proofs that the Go code comes to their answers: written by a program out of the translation. -/
import Derived.Test.YteoonjnmghponaaZPx0
import Derived.Test.YteoonjnmghponaaZUb
namespace Go.Proofs.Yteoonjnmghponaa.P
open Go.RowKit Go.Proofs.YteoonjnmghponaaW.PrintWords Go.Proofs.YteoonjnmghponaaW.PrintLast Go.Proofs.YteoonjnmghponaaW.PrintMore
attribute [local go_sem] max2_int min2_int max_two min_two max_three min_three max_four min_four   -- for this text's walks alone
open Go.Proofs.Yteoonjnmghponaa.F
set_option linter.unusedVariables false
set_option linter.unusedSimpArgs false

/-! ### bidi_opener: function 64 -/
def bidi_opener.f (a0 : Int) : Option (Bool) := if a0 = 19 then (some true) else (if a0 = 20 then (some true) else (some (a0 == 21)))
set_option maxHeartbeats 8000000 in
set_option maxRecDepth 100000 in
theorem bidi_opener.calls (a0 : Int) (r : Bool) (w : World) (h : bidi_opener.f a0 = some r) :
  Calls Try.prog 64 #[.int .i64 a0] w fun e w' => e = .returned (.bool r) ∧ Drawn0 w w' := by
 have H : (if a0 = 19 then (some true) else (if a0 = 20 then (some true) else (some (a0 == 21)))) = some r := h
 clear h
 by_cases c2 : a0 = 19
 ·rw [if_pos c2] at H
  have c2b0 : (a0 == 19) = true := beq_iff_eq.mpr c2
  have c2b1 : (a0 != 19) = false := bne_eq_false_iff_eq.mpr c2
  clear c2
  obtain rfl := Option.some.inj H
  go_enter Try.func64, Try.ntmps64
  go_wp2
  go_ret
  exact ⟨by first | rfl | (simp; done) | (simp [*]; done), by repeat (first | exact Drawn0.refl _ | apply Drawn0.step)⟩
 ·rw [if_neg c2] at H
  have c2b0 : (a0 == 19) = false := beq_eq_false_iff_ne.mpr c2
  have c2b1 : (a0 != 19) = true := bne_iff_ne.mpr c2
  by_cases c3 : a0 = 20
  ·rw [if_pos c3] at H
   have c3b0 : (a0 == 20) = true := beq_iff_eq.mpr c3
   have c3b1 : (a0 != 20) = false := bne_eq_false_iff_eq.mpr c3
   clear c3
   obtain rfl := Option.some.inj H
   go_enter Try.func64, Try.ntmps64
   go_wp2
   go_ret
   exact ⟨by first | rfl | (simp; done) | (simp [*]; done), by repeat (first | exact Drawn0.refl _ | apply Drawn0.step)⟩
  ·rw [if_neg c3] at H
   have c3b0 : (a0 == 20) = false := beq_eq_false_iff_ne.mpr c3
   have c3b1 : (a0 != 20) = true := bne_iff_ne.mpr c3
   obtain rfl := Option.some.inj H
   go_enter Try.func64, Try.ntmps64
   go_wp2
   go_ret
   exact ⟨by first | rfl | (simp; done) | (simp [*]; done), by repeat (first | exact Drawn0.refl _ | apply Drawn0.step)⟩

/-! ### bidi_matches: function 30 -/
def bidi_matches.l0 : Nat → List Int → List Int → List Int → Int → Int → Option (List Int)
 | 0, _, _, _, _, _ => none
 | k + 1, x3, x4, x11, x12, x13 => if x13 < x12 then (if 0 ≤ x13 then (if x13 < (x11.length : Int) then (if x13 < (x3.length : Int) then ((some (x3.set (x13 : Int).toNat (-1) : List Int)).bind fun y222 => ((bidi_opener.f (rd x11 x13)).bind fun t223 => (if t223 = true then (if x4.length < 17592186044416 then (bidi_matches.l0 k y222 (x4 ++ [x13]) x11 x12 (wrap64 (x13 + 1))) else (none)) else (if (rd x11 x13) = 10 then (bidi_matches.l0 k y222 ([] : List Int) x11 x12 (wrap64 (x13 + 1))) else (if (rd x11 x13) = 22 then (if (x4.length : Int) > 0 then (if 0 ≤ (wrap64 ((x4.length : Int) - 1)) then (if (wrap64 ((x4.length : Int) - 1)) < (x4.length : Int) then (if 0 ≤ (rd x4 (wrap64 ((x4.length : Int) - 1))) then (if (rd x4 (wrap64 ((x4.length : Int) - 1))) < (x3.length : Int) then (if (wrap64 ((x4.length : Int) - 1)) ≤ (x4.length : Int) then (bidi_matches.l0 k ((y222.set (x13 : Int).toNat (rd x4 (wrap64 ((x4.length : Int) - 1)))).set ((rd x4 (wrap64 ((x4.length : Int) - 1))) : Int).toNat x13) (x4.take ((wrap64 ((x4.length : Int) - 1)) : Int).toNat) x11 x12 (wrap64 (x13 + 1))) else (none)) else (none)) else (none)) else (none)) else (none)) else (bidi_matches.l0 k y222 x4 x11 x12 (wrap64 (x13 + 1)))) else (bidi_matches.l0 k y222 x4 x11 x12 (wrap64 (x13 + 1)))))))) else (none)) else (none)) else (none)) else (some x3)
def bidi_matches.f (k : Nat) (l0 : List Int) : Option (List Int) := if 0 ≤ (l0.length : Int) then (if ((l0.length : Int) : Int).toNat ≤ 35184372088832 then (bidi_matches.l0 k (List.replicate ((l0.length : Int) : Int).toNat 0) ([] : List Int) l0 (l0.length : Int) 0) else (none)) else (none)
theorem bidi_matches.mono_l : ∀ k, (∀ y0 y1 y2 y3 y4, LeO (bidi_matches.l0 k y0 y1 y2 y3 y4) (bidi_matches.l0 (k + 1) y0 y1 y2 y3 y4))
 | 0 => fun _ _ _ _ _ r h => by simp [bidi_matches.l0] at h
 | k + 1 => by
  have ih0 := bidi_matches.mono_l k
  ·intro y0 y1 y2 y3 y4
   unfold bidi_matches.l0
   repeat' first
   | (with_reducible exact ih0 _ _ _ _ _)
   | (with_reducible exact LeO.refl _)
   | (with_reducible exact LeO.none _)
   | (with_reducible refine LeO.ite ?_ ?_)
   | (with_reducible refine LeO.bind ?_ (fun _ => ?_))
   | exact ih0 _ _ _ _ _
   | exact LeO.none _
   | refine LeO.ite ?_ ?_
   | refine LeO.bind ?_ (fun _ => ?_)
theorem bidi_matches.mono : ∀ a0 k, LeO (bidi_matches.f k a0) (bidi_matches.f (k + 1) a0) := by
 intro a0 k
 have ih0 := bidi_matches.mono_l k
 unfold bidi_matches.f
 repeat' first
   | (with_reducible exact ih0 _ _ _ _ _)
   | (with_reducible exact LeO.refl _)
   | (with_reducible exact LeO.none _)
   | (with_reducible refine LeO.ite ?_ ?_)
   | (with_reducible refine LeO.bind ?_ (fun _ => ?_))
   | exact ih0 _ _ _ _ _
   | exact LeO.none _
   | refine LeO.ite ?_ ?_
   | refine LeO.bind ?_ (fun _ => ?_)
def bidi_matches.T13 : Bool × List (List Nat × List Nat) := (true, [([], []), ([], []), ([], []), ([], []), ([], []), ([3, 4], [3, 4]), ([5], [5]), ([], []), ([], []), ([7, 8], [7, 8]), ([9], [9]), ([], []), ([0, 1, 0, 1, 6, 7, 8, 9, 10], [0, 1]), ([12, 10, 0, 1, 6, 7, 8, 9, 10], [10, 12]), ([2, 6, 0, 1, 2, 3, 4, 5, 6, 7, 8, 9, 10, 11, 12, 13], [2, 6]), ([14, 11, 13, 0, 1, 2, 3, 4, 5, 6, 7, 8, 9, 10, 11, 12, 13], [11, 14])])
def bidi_matches.B13 : List Nat := [0, 0, 0, 0, 0, 24, 56, 0, 0, 384, 896, 0, 2043, 6139, 16383, 32767]
theorem bidi_matches.tab13 : rtab .any (opsOf Try.f30 13) = bidi_matches.T13 := by kernel_rfl
theorem bidi_matches.bits13 : waitsOk bidi_matches.T13.2 bidi_matches.B13 = true := by kernel_rfl
set_option maxHeartbeats 8000000 in
set_option maxRecDepth 100000 in
theorem bidi_matches.calls (k : Nat) (A0 : Option Addr) (c0 : Nat) (l0 : List Int) (r : List Int) (w : World) (hr0 : Kd.C (Kd.int .i64) w A0 l0.length l0) (hc0 : l0.length ≤ c0) (h : bidi_matches.f k l0 = some r) :
  Calls Try.prog 30 #[.slice A0 l0.length c0] w fun e w' => ∃ v0_ : Value, e = .returned (v0_) ∧ Kd.R (Kd.int .i64) 3 w' w.heap.size (fun _ => True) v0_ r ∧ Below w.heap.size w w' := by
 have HR0 := Aside0.mk hr0
 have HC0 := Aside0.mk hc0
 clear hr0 hc0
 have HB := Aside0.mk (Below.refl w.heap.size w)
 have H : (if 0 ≤ (l0.length : Int) then (if ((l0.length : Int) : Int).toNat ≤ 35184372088832 then (bidi_matches.l0 k (List.replicate ((l0.length : Int) : Int).toNat 0) ([] : List Int) l0 (l0.length : Int) 0) else (none)) else (none)) = some r := h
 clear h
 by_cases c2 : 0 ≤ (l0.length : Int)
 ·rw [if_pos c2] at H
  have c2b0 := eq_true c2
  have c2b1 : decide (0 ≤ (l0.length : Int)) = true := decide_eq_true c2
  clear c2
  by_cases c3 : ((l0.length : Int) : Int).toNat ≤ 35184372088832
  ·rw [if_pos c3] at H
   have c3b0 := eq_true c3
   have c3b1 : decide (((l0.length : Int) : Int).toNat ≤ 35184372088832) = true := decide_eq_true c3
   clear c3
   obtain ⟨y218, hy218⟩ : ∃ y_ : List Int, y_ = (List.replicate ((l0.length : Int) : Int).toNat 0) := ⟨_, rfl⟩
   replace H : (bidi_matches.l0 k y218 ([] : List Int) l0 (l0.length : Int) 0) = some r := by first | (rw [hy218]; with_reducible exact H) | (have H2_ := (Option.bind_some _ _).symm.trans H; rw [hy218]; with_reducible exact H2_) | (have H2_ := (Option.bind_some _ _).symm.trans H; with_reducible exact H2_) | with_reducible exact H | (rw [hy218]; exact H) | exact H
   have Ny218 := Aside0.mk hy218
   clear hy218
   have H' := Aside0.mk H
   clear H
   go_enter Try.func30, Try.ntmps30
   go_wp2_with (first | ((with_reducible refine gate_dst (N := 10) rfl ?_); (try (refine gate_guard (by rfl) ?_; dsimp only)); refine Kd.R_make (Kd.int .i64) _ 3 rfl (N := 10) rfl 42 _ _ rfl (l0.length : Int) rfl rfl Try.underlying42 (.int .i64 0) 8 info3 rfl (by decide) (by omega) 0 (ok := fun _ => True) (okp := fun _ => True) rfl (fun _ hk => hk) trivial (of_decide_eq_true (by first | (with_reducible assumption) | assumption)) (Nat.le_trans (Nat.mul_le_mul_right _ (of_decide_eq_true (by first | (with_reducible assumption) | assumption) : (l0.length : Int).toNat ≤ 35184372088832)) (by omega)) (Below.refl _ _) (Nat.le_refl _) ?_; intro v219 w4 ho5 hb hg_ hnew_; clear hg_ hnew_; (first | rw [← Ny218.out] at ho5 | (simp only [Int.reduceToNat] at ho5; rw [← Ny218.out] at ho5)); have n0_ := Aside0.mk (Kd.R_lower ho5 (below_size (by repeat (first | (with_reducible first | exact HB.out | apply below_alloc | apply pw_below_drewN | apply below_drew1) | exact HB.out)))); have n1_ := Aside0.mk (below_step (by repeat (first | (with_reducible first | exact HB.out | apply below_alloc | apply pw_below_drewN | apply below_drew1) | exact HB.out)) hb); clear HB; have HO220 := n0_; have HB := n1_; clear n0_ n1_; clear hb ho5))
   go_loopg [4, 13] k (fun kq v4 v13 w' => ∃ (x3_1 : List Int) (x4_1 : List Int) (x13_1 : Int), v13 = .int .i64 x13_1 ∧ Aside0 (bidi_matches.l0 kq x3_1 x4_1 l0 (l0.length : Int) x13_1 = some r) ∧ Aside0 (kq ≤ k) ∧ Aside0 (Kd.R (Kd.int .i64) 3 w' w.heap.size (fun k_ => some k_ ≠ (v4 : Value).ownBlock) v219 x3_1) ∧ Aside0 (Kd.R (Kd.int .i64) 3 w' w.heap.size (fun k_ => some k_ ≠ (v219 : Value).ownBlock) v4 x4_1) ∧ Aside0 (Below w.heap.size w w'))
   case atStart => exact ⟨(y218), (([] : List Int)), (0), (by first | rfl | (simp; done) | (simp [*]; done)), H', ⟨Nat.le_refl _⟩, ⟨by (with_reducible repeat (first | apply Kd.R_alloc | apply Kd.R_drewN | apply Kd.R_drew)); exact Kd.R_mono HO220.out (fun _ hk => (by simp [Value.ownBlock]))⟩, ⟨by first | exact Kd.R_nil _ _ _ _ _ | exact Kd.N_nil _ _ _ _ _ | exact Kd.V_nil _ _ _ _ _ | exact Kd.Q_nil _ _ _ _ _ | exact Kd.S_nil _ _ _ _ _⟩, ⟨by repeat (first | (with_reducible first | exact HB.out | apply below_alloc | apply pw_below_drewN | apply below_drew1) | exact HB.out)⟩⟩
   case round =>
    clear H'
    try clear c2
    try clear c2b0
    try clear c2b1
    try clear p2
    try clear c3
    try clear c3b0
    try clear c3b1
    obtain ⟨x3_1, x4_1, x13_1, rfl, HA, HK1, HO_3, HO_4, HB⟩ := hrel
    cases gk with
    | zero => exact absurd HA.out (by simp [bidi_matches.l0])
    | succ k1 =>
     have H := HA.out
     clear HA
     simp only [bidi_matches.l0] at H
     by_cases c6 : x13_1 < (l0.length : Int)
     ·rw [if_pos c6] at H
      have c6b0 : decide (x13_1 < (l0.length : Int)) = true := decide_eq_true c6
      clear c6
      by_cases c7 : 0 ≤ x13_1
      ·rw [if_pos c7] at H
       have c7b0 : decide (0 ≤ x13_1) = true := decide_eq_true c7
       clear c7
       by_cases c8 : x13_1 < (l0.length : Int)
       ·rw [if_pos c8] at H
        have c8b0 : decide (x13_1 < (l0.length : Int)) = true := decide_eq_true c8
        clear c8
        by_cases c9 : x13_1 < (x3_1.length : Int)
        ·rw [if_pos c9] at H
         have c9b0 : decide (x13_1 < (x3_1.length : Int)) = true := decide_eq_true c9
         clear c9
         obtain ⟨y222, hy222⟩ : ∃ y_ : List Int, y_ = (x3_1.set (x13_1 : Int).toNat (-1)) := ⟨_, rfl⟩
         replace H : ((bidi_opener.f (rd l0 x13_1)).bind fun t223 => (if t223 = true then (if x4_1.length < 17592186044416 then (bidi_matches.l0 k1 y222 (x4_1 ++ [x13_1]) l0 (l0.length : Int) (wrap64 (x13_1 + 1))) else (none)) else (if (rd l0 x13_1) = 10 then (bidi_matches.l0 k1 y222 ([] : List Int) l0 (l0.length : Int) (wrap64 (x13_1 + 1))) else (if (rd l0 x13_1) = 22 then (if (x4_1.length : Int) > 0 then (if 0 ≤ (wrap64 ((x4_1.length : Int) - 1)) then (if (wrap64 ((x4_1.length : Int) - 1)) < (x4_1.length : Int) then (if 0 ≤ (rd x4_1 (wrap64 ((x4_1.length : Int) - 1))) then (if (rd x4_1 (wrap64 ((x4_1.length : Int) - 1))) < (x3_1.length : Int) then (if (wrap64 ((x4_1.length : Int) - 1)) ≤ (x4_1.length : Int) then (bidi_matches.l0 k1 ((y222.set (x13_1 : Int).toNat (rd x4_1 (wrap64 ((x4_1.length : Int) - 1)))).set ((rd x4_1 (wrap64 ((x4_1.length : Int) - 1))) : Int).toNat x13_1) (x4_1.take ((wrap64 ((x4_1.length : Int) - 1)) : Int).toNat) l0 (l0.length : Int) (wrap64 (x13_1 + 1))) else (none)) else (none)) else (none)) else (none)) else (none)) else (bidi_matches.l0 k1 y222 x4_1 l0 (l0.length : Int) (wrap64 (x13_1 + 1)))) else (bidi_matches.l0 k1 y222 x4_1 l0 (l0.length : Int) (wrap64 (x13_1 + 1))))))) = some r := by first | (rw [hy222]; with_reducible exact H) | (have H2_ := (Option.bind_some _ _).symm.trans H; rw [hy222]; with_reducible exact H2_) | (have H2_ := (Option.bind_some _ _).symm.trans H; with_reducible exact H2_) | with_reducible exact H | (rw [hy222]; exact H) | exact H
         have Ny222 := Aside0.mk hy222
         clear hy222
         replace H := Option.bind_eq_some_iff.mp H
         obtain ⟨t223, A110, H⟩ := H
         replace H : (if t223 = true then (if x4_1.length < 17592186044416 then (bidi_matches.l0 k1 y222 (x4_1 ++ [x13_1]) l0 (l0.length : Int) (wrap64 (x13_1 + 1))) else (none)) else (if (rd l0 x13_1) = 10 then (bidi_matches.l0 k1 y222 ([] : List Int) l0 (l0.length : Int) (wrap64 (x13_1 + 1))) else (if (rd l0 x13_1) = 22 then (if (x4_1.length : Int) > 0 then (if 0 ≤ (wrap64 ((x4_1.length : Int) - 1)) then (if (wrap64 ((x4_1.length : Int) - 1)) < (x4_1.length : Int) then (if 0 ≤ (rd x4_1 (wrap64 ((x4_1.length : Int) - 1))) then (if (rd x4_1 (wrap64 ((x4_1.length : Int) - 1))) < (x3_1.length : Int) then (if (wrap64 ((x4_1.length : Int) - 1)) ≤ (x4_1.length : Int) then (bidi_matches.l0 k1 ((y222.set (x13_1 : Int).toNat (rd x4_1 (wrap64 ((x4_1.length : Int) - 1)))).set ((rd x4_1 (wrap64 ((x4_1.length : Int) - 1))) : Int).toNat x13_1) (x4_1.take ((wrap64 ((x4_1.length : Int) - 1)) : Int).toNat) l0 (l0.length : Int) (wrap64 (x13_1 + 1))) else (none)) else (none)) else (none)) else (none)) else (none)) else (bidi_matches.l0 k1 y222 x4_1 l0 (l0.length : Int) (wrap64 (x13_1 + 1)))) else (bidi_matches.l0 k1 y222 x4_1 l0 (l0.length : Int) (wrap64 (x13_1 + 1)))))) = some r := H
         have A11 := Aside0.mk A110
         clear A110
         by_cases c12 : t223 = true
         ·subst c12
          have H1 : (if x4_1.length < 17592186044416 then (bidi_matches.l0 k1 y222 (x4_1 ++ [x13_1]) l0 (l0.length : Int) (wrap64 (x13_1 + 1))) else (none)) = some r := by rw [if_pos rfl] at H; exact H
          clear H
          have H := H1
          clear H1
          by_cases c13 : x4_1.length < 17592186044416
          ·rw [if_pos c13] at H
           have LMc13 := Aside0.mk c13
           clear c13
           obtain ⟨y224, hy224⟩ : ∃ y_ : List Int, y_ = (x4_1 ++ [x13_1]) := ⟨_, rfl⟩
           replace H : (bidi_matches.l0 k1 y222 y224 l0 (l0.length : Int) (wrap64 (x13_1 + 1))) = some r := by first | (rw [hy224]; with_reducible exact H) | (have H2_ := (Option.bind_some _ _).symm.trans H; rw [hy224]; with_reducible exact H2_) | (have H2_ := (Option.bind_some _ _).symm.trans H; with_reducible exact H2_) | with_reducible exact H | (rw [hy224]; exact H) | exact H
           have Ny224 := Aside0.mk hy224
           clear hy224
           have H' := Aside0.mk H
           clear H
           have p221 : 0 ≤ (x13_1 : Int) := of_decide_eq_true (by first | (with_reducible assumption) | assumption)
           have q221 : x13_1 < (l0.length : Int) := of_decide_eq_true (by first | (with_reducible assumption) | assumption)
           obtain ⟨ad221, e221, hx221_0⟩ := Kd.at_int HR0.out x13_1 p221 q221
           cases e221
           replace hx221_0 := (HB.out.cell (World.block_lt_of_cell? w _ hx221_0)).trans hx221_0
           replace p221 := eq_true p221
           replace q221 := eq_true q221
           have p10 : 0 ≤ (x13_1 : Int) := of_decide_eq_true (by first | (with_reducible assumption) | assumption)
           have q10 : (x13_1 : Int) < ((x3_1.length : Int) : Int) := of_decide_eq_true (by first | (with_reducible assumption) | assumption)
           obtain ⟨go10, co10, eo10, gb10, gl10, cl10, HG10⟩ := Kd.R_form HO_3.out (by omega)
           (first | cases eo10 | (injection eo10 with ea_ en_ ec_; (first | subst ea_ | (injection ea_ with ea_; subst ea_)); subst ec_; clear en_))
           have GB10 := Aside0.mk gb10
           have GG10 := Aside0.mk HG10
           clear gb10 gl10 HG10
           obtain ⟨hx10_0, hf10_0⟩ := Kd.R_celln 0 HO_3.out (x13_1 : Int) p10 q10
           replace p10 := eq_true p10
           replace q10 := eq_true q10
           have HP14 := Kd.R_putg HO_3.out (x13_1 : Int) (-1)
           go_wp2_with (first | ((with_reducible refine gate_store (t := 3) (p := 20) rfl ?_); refine store_event (t := 3) (p := 20) (v := ?vo_w15) (w1 := (wr.setCell ⟨go10, (x13_1 : Int).toNat, none⟩ (.int .i64 (-1)))) ?hg ?ho ?hn ?hr ?_; (case ho => rfl); (case hg => rfl); (case hn => rfl); (case hr => first | (go_simp; done) | (go_simp; rfl)); intro w15 hw; have hg : wr.grownBy w15 (some go10) := (by rw [hw]; exact HP14.2); have hp_ : Kd.R (Kd.int .i64) 3 w15 w.heap.size (fun k_ => some k_ ≠ (u4 : Value).ownBlock) (.slice (some ⟨go10, 0, none⟩) x3_1.length co10) y222 := (by rw [hw, Ny222.out]; exact HP14.1); clear HP14; have n0_ := Aside0.mk (hp_); have n1_ := Aside0.mk (Kd.R_after (v := (.slice (some ⟨go10, 0, none⟩) x3_1.length co10)) (v1 := (.slice (some ⟨go10, 0, none⟩) x3_1.length co10)) (ok := (fun _ => True)) (by (with_reducible repeat (first | apply Kd.R_alloc | apply Kd.R_drewN | apply Kd.R_drew)); exact Kd.R_mono HO_4.out (fun _ hk => ⟨trivial, hk⟩)) hg (.inl rfl)); have n2_ := Aside0.mk ((by rw [hw]; exact below_set (HB.out) GB10.out : Below w.heap.size w w15)); clear HO_3; clear HO_4; clear HB; have HO_3 := n0_; have HO_4 := n1_; have HB := n2_; clear n0_ n1_ n2_; clear hg hw hp_) | ((with_reducible refine gate_callee (f := 64) rfl ?_); refine goesL_ (some 23) rfl rfl Try.func64 (by kernel_rfl) rfl #[.int .i64 (rd l0 x13_1)] rfl (by (try simp only [List.map_toArray, List.map_cons, List.map_nil]); first | done | rfl | (simp only [List.length_drop, List.length_take]; rfl)) ?_; (with_reducible refine (bidi_opener.calls (rd l0 x13_1) true _ A11.out).mono ?_); rintro e w' ⟨rfl, ⟨nd, rfl⟩⟩; refine ⟨_, rfl, ?_⟩) | (go_at_call 64; (with_reducible refine (bidi_opener.calls (rd l0 x13_1) true _ A11.out).mono ?_); rintro e w' ⟨rfl, ⟨nd, rfl⟩⟩) | ((with_reducible refine gate_builtin (b := .append) (xs := #[.tmp 24, .tmp 26]) rfl ?_); (try (refine gate_guard (by rfl) ?_; dsimp only)); at_builtin; refine Kd.R_append (Kd.int .i64) (w0 := w) w.heap.size rfl (.tmp 24) (.tmp 26) 42 3 (.int .i64 0) 8 rfl Try.underlying42 info3 rfl (by decide) (by omega) u4 x4_1 x13_1 [.int .i64 x13_1] (fun k_ => some k_ ≠ (.slice (some ⟨go10, 0, none⟩) x3_1.length co10 : Value).ownBlock) (fun _ => False) rfl rfl ?aP (fun _ hk => hk.elim) ?aF ?aO ?aB ?aS ?aL ?_; (case aP => exact rfl); (case aB => exact (by repeat (first | (with_reducible first | exact HB.out | apply below_alloc | apply pw_below_drewN | apply below_drew1) | exact HB.out))); (case aF => exact (fun k_ hk => Kd.fresh' (Kd.R_lt (by (with_reducible repeat (first | apply Kd.R_alloc | apply Kd.R_drewN | apply Kd.R_drew)); exact HO_3.out)) k_ hk)); (case aO => exact (by (with_reducible repeat (first | apply Kd.R_alloc | apply Kd.R_drewN | apply Kd.R_drew)); exact Kd.R_mono HO_4.out (fun _ hk => hk.2))); (case aS => exact (below_size (by repeat (first | (with_reducible first | exact HB.out | apply below_alloc | apply pw_below_drewN | apply below_drew1) | exact HB.out)))); (case aL => have := LMc13.out; omega); intro v225 w16 ho hb hg hat; rw [← Ny224.out] at ho; have n0_ := Aside0.mk (Kd.R_after (ok := (fun _ => True)) (by (with_reducible repeat (first | apply Kd.R_alloc | apply Kd.R_drewN | apply Kd.R_drew)); exact Kd.R_mono HO_3.out (fun _ hk => ⟨trivial, hk⟩)) hg hat); have n1_ := Aside0.mk (hb); have n2_ := Aside0.mk (ho); clear HO_3; clear HB; clear HO_4; have HO_3 := n0_; have HB := n1_; have HO226 := n2_; clear n0_ n1_ n2_; clear ho hb hg hat))
           go_roundg k1
           case measure => have := HK1.out; omega
           case rel => exact ⟨(y222), (y224), (wrap64 (x13_1 + 1)), (by first | rfl | (simp; done) | (simp [*]; done)), H', ⟨by have := HK1.out; omega⟩, ⟨by (with_reducible repeat (first | apply Kd.R_alloc | apply Kd.R_drewN | apply Kd.R_drew)); exact Kd.R_mono HO_3.out (fun _ hk => hk.2)⟩, ⟨by (with_reducible repeat (first | apply Kd.R_alloc | apply Kd.R_drewN | apply Kd.R_drew)); exact HO226.out⟩, ⟨by repeat (first | (with_reducible first | exact HB.out | apply below_alloc | apply pw_below_drewN | apply below_drew1) | exact HB.out)⟩⟩
          ·rw [if_neg c13] at H
           exact absurd H (by simp)
         ·replace c12 := Bool.eq_false_iff.mpr c12
          subst c12
          have H1 : (if (rd l0 x13_1) = 10 then (bidi_matches.l0 k1 y222 ([] : List Int) l0 (l0.length : Int) (wrap64 (x13_1 + 1))) else (if (rd l0 x13_1) = 22 then (if (x4_1.length : Int) > 0 then (if 0 ≤ (wrap64 ((x4_1.length : Int) - 1)) then (if (wrap64 ((x4_1.length : Int) - 1)) < (x4_1.length : Int) then (if 0 ≤ (rd x4_1 (wrap64 ((x4_1.length : Int) - 1))) then (if (rd x4_1 (wrap64 ((x4_1.length : Int) - 1))) < (x3_1.length : Int) then (if (wrap64 ((x4_1.length : Int) - 1)) ≤ (x4_1.length : Int) then (bidi_matches.l0 k1 ((y222.set (x13_1 : Int).toNat (rd x4_1 (wrap64 ((x4_1.length : Int) - 1)))).set ((rd x4_1 (wrap64 ((x4_1.length : Int) - 1))) : Int).toNat x13_1) (x4_1.take ((wrap64 ((x4_1.length : Int) - 1)) : Int).toNat) l0 (l0.length : Int) (wrap64 (x13_1 + 1))) else (none)) else (none)) else (none)) else (none)) else (none)) else (bidi_matches.l0 k1 y222 x4_1 l0 (l0.length : Int) (wrap64 (x13_1 + 1)))) else (bidi_matches.l0 k1 y222 x4_1 l0 (l0.length : Int) (wrap64 (x13_1 + 1))))) = some r := by rw [if_neg (show ¬ (false = true) by decide)] at H; exact H
          clear H
          have H := H1
          clear H1
          by_cases c17 : (rd l0 x13_1) = 10
          ·rw [if_pos c17] at H
           have c17b0 : ((rd l0 x13_1) == 10) = true := beq_iff_eq.mpr c17
           have c17b1 : ((rd l0 x13_1) != 10) = false := bne_eq_false_iff_eq.mpr c17
           clear c17
           have H' := Aside0.mk H
           clear H
           have p221 : 0 ≤ (x13_1 : Int) := of_decide_eq_true (by first | (with_reducible assumption) | assumption)
           have q221 : x13_1 < (l0.length : Int) := of_decide_eq_true (by first | (with_reducible assumption) | assumption)
           obtain ⟨ad221, e221, hx221_0⟩ := Kd.at_int HR0.out x13_1 p221 q221
           cases e221
           replace hx221_0 := (HB.out.cell (World.block_lt_of_cell? w _ hx221_0)).trans hx221_0
           replace p221 := eq_true p221
           replace q221 := eq_true q221
           have p10 : 0 ≤ (x13_1 : Int) := of_decide_eq_true (by first | (with_reducible assumption) | assumption)
           have q10 : (x13_1 : Int) < ((x3_1.length : Int) : Int) := of_decide_eq_true (by first | (with_reducible assumption) | assumption)
           obtain ⟨go10, co10, eo10, gb10, gl10, cl10, HG10⟩ := Kd.R_form HO_3.out (by omega)
           (first | cases eo10 | (injection eo10 with ea_ en_ ec_; (first | subst ea_ | (injection ea_ with ea_; subst ea_)); subst ec_; clear en_))
           have GB10 := Aside0.mk gb10
           have GG10 := Aside0.mk HG10
           clear gb10 gl10 HG10
           obtain ⟨hx10_0, hf10_0⟩ := Kd.R_celln 0 HO_3.out (x13_1 : Int) p10 q10
           replace p10 := eq_true p10
           replace q10 := eq_true q10
           have HP18 := Kd.R_putg HO_3.out (x13_1 : Int) (-1)
           go_wp2_with (first | ((with_reducible refine gate_store (t := 3) (p := 20) rfl ?_); refine store_event (t := 3) (p := 20) (v := ?vo_w19) (w1 := (wr.setCell ⟨go10, (x13_1 : Int).toNat, none⟩ (.int .i64 (-1)))) ?hg ?ho ?hn ?hr ?_; (case ho => rfl); (case hg => rfl); (case hn => rfl); (case hr => first | (go_simp; done) | (go_simp; rfl)); intro w19 hw; have hg : wr.grownBy w19 (some go10) := (by rw [hw]; exact HP18.2); have hp_ : Kd.R (Kd.int .i64) 3 w19 w.heap.size (fun k_ => some k_ ≠ (u4 : Value).ownBlock) (.slice (some ⟨go10, 0, none⟩) x3_1.length co10) y222 := (by rw [hw, Ny222.out]; exact HP18.1); clear HP18; have n0_ := Aside0.mk (hp_); have n1_ := Aside0.mk (Kd.R_after (v := (.slice (some ⟨go10, 0, none⟩) x3_1.length co10)) (v1 := (.slice (some ⟨go10, 0, none⟩) x3_1.length co10)) (ok := (fun _ => True)) (by (with_reducible repeat (first | apply Kd.R_alloc | apply Kd.R_drewN | apply Kd.R_drew)); exact Kd.R_mono HO_4.out (fun _ hk => ⟨trivial, hk⟩)) hg (.inl rfl)); have n2_ := Aside0.mk ((by rw [hw]; exact below_set (HB.out) GB10.out : Below w.heap.size w w19)); clear HO_3; clear HO_4; clear HB; have HO_3 := n0_; have HO_4 := n1_; have HB := n2_; clear n0_ n1_ n2_; clear hg hw hp_) | ((with_reducible refine gate_callee (f := 64) rfl ?_); refine goesL_ (some 23) rfl rfl Try.func64 (by kernel_rfl) rfl #[.int .i64 (rd l0 x13_1)] rfl (by (try simp only [List.map_toArray, List.map_cons, List.map_nil]); first | done | rfl | (simp only [List.length_drop, List.length_take]; rfl)) ?_; (with_reducible refine (bidi_opener.calls (rd l0 x13_1) false _ A11.out).mono ?_); rintro e w' ⟨rfl, ⟨nd, rfl⟩⟩; refine ⟨_, rfl, ?_⟩) | (go_at_call 64; (with_reducible refine (bidi_opener.calls (rd l0 x13_1) false _ A11.out).mono ?_); rintro e w' ⟨rfl, ⟨nd, rfl⟩⟩))
           go_roundg k1
           case measure => have := HK1.out; omega
           case rel => exact ⟨(y222), (([] : List Int)), (wrap64 (x13_1 + 1)), (by first | rfl | (simp; done) | (simp [*]; done)), H', ⟨by have := HK1.out; omega⟩, ⟨by (with_reducible repeat (first | apply Kd.R_alloc | apply Kd.R_drewN | apply Kd.R_drew)); exact Kd.R_mono HO_3.out (fun _ hk => (by simp [Value.ownBlock]))⟩, ⟨by first | exact Kd.R_nil _ _ _ _ _ | exact Kd.N_nil _ _ _ _ _ | exact Kd.V_nil _ _ _ _ _ | exact Kd.Q_nil _ _ _ _ _ | exact Kd.S_nil _ _ _ _ _⟩, ⟨by repeat (first | (with_reducible first | exact HB.out | apply below_alloc | apply pw_below_drewN | apply below_drew1) | exact HB.out)⟩⟩
          ·rw [if_neg c17] at H
           have c17b0 : ((rd l0 x13_1) == 10) = false := beq_eq_false_iff_ne.mpr c17
           have c17b1 : ((rd l0 x13_1) != 10) = true := bne_iff_ne.mpr c17
           by_cases c20 : (rd l0 x13_1) = 22
           ·rw [if_pos c20] at H
            have c20b0 : ((rd l0 x13_1) == 22) = true := beq_iff_eq.mpr c20
            have c20b1 : ((rd l0 x13_1) != 22) = false := bne_eq_false_iff_eq.mpr c20
            clear c20
            by_cases c21 : (x4_1.length : Int) > 0
            ·rw [if_pos c21] at H
             have c21b0 : decide (0 < (x4_1.length : Int)) = true := decide_eq_true c21
             have c21b1 : decide (0 < x4_1.length) = true := decide_eq_true (by omega)
             clear c21
             obtain ⟨ji22, hji22⟩ : ∃ j_ : Int, (wrap64 ((x4_1.length : Int) - 1)) = j_ := ⟨_, rfl⟩
             replace H : (if 0 ≤ (ji22) then (if (ji22) < (x4_1.length : Int) then (if 0 ≤ (rd x4_1 (ji22)) then (if (rd x4_1 (ji22)) < (x3_1.length : Int) then (if (ji22) ≤ (x4_1.length : Int) then (bidi_matches.l0 k1 ((y222.set (x13_1 : Int).toNat (rd x4_1 (ji22))).set ((rd x4_1 (ji22)) : Int).toNat x13_1) (x4_1.take ((ji22) : Int).toNat) l0 (l0.length : Int) (wrap64 (x13_1 + 1))) else (none)) else (none)) else (none)) else (none)) else (none)) = some r := by first | (rw [hji22] at H; exact H) | (simp only [hji22] at H ⊢; exact H)
             (try rw [hji22] at A11)
             have hji22w : (IntKind.i64.wrap ((x4_1.length : Int) - 1)) = ji22 := (i64_w _).trans hji22
             by_cases c23 : 0 ≤ (ji22)
             ·rw [if_pos c23] at H
              have c23b0 : decide (0 ≤ (ji22)) = true := decide_eq_true c23
              clear c23
              by_cases c24 : (ji22) < (x4_1.length : Int)
              ·rw [if_pos c24] at H
               have c24b0 : decide ((ji22) < (x4_1.length : Int)) = true := decide_eq_true c24
               clear c24
               obtain ⟨y229, hy229⟩ : ∃ y_ : List Int, y_ = (y222.set (x13_1 : Int).toNat (rd x4_1 (ji22))) := ⟨_, rfl⟩
               replace H : (if 0 ≤ (rd x4_1 (ji22)) then (if (rd x4_1 (ji22)) < (x3_1.length : Int) then (if (ji22) ≤ (x4_1.length : Int) then (bidi_matches.l0 k1 (y229.set ((rd x4_1 (ji22)) : Int).toNat x13_1) (x4_1.take ((ji22) : Int).toNat) l0 (l0.length : Int) (wrap64 (x13_1 + 1))) else (none)) else (none)) else (none)) = some r := by first | (rw [hy229]; with_reducible exact H) | (have H2_ := (Option.bind_some _ _).symm.trans H; rw [hy229]; with_reducible exact H2_) | (have H2_ := (Option.bind_some _ _).symm.trans H; with_reducible exact H2_) | with_reducible exact H | (rw [hy229]; exact H) | exact H
               have Ny229 := Aside0.mk hy229
               clear hy229
               by_cases c26 : 0 ≤ (rd x4_1 (ji22))
               ·rw [if_pos c26] at H
                have c26b0 : decide (0 ≤ (rd x4_1 (ji22))) = true := decide_eq_true c26
                clear c26
                by_cases c27 : (rd x4_1 (ji22)) < (x3_1.length : Int)
                ·rw [if_pos c27] at H
                 have c27b0 : decide ((rd x4_1 (ji22)) < (x3_1.length : Int)) = true := decide_eq_true c27
                 clear c27
                 obtain ⟨y230, hy230⟩ : ∃ y_ : List Int, y_ = (y229.set ((rd x4_1 (ji22)) : Int).toNat x13_1) := ⟨_, rfl⟩
                 replace H : (if (ji22) ≤ (x4_1.length : Int) then (bidi_matches.l0 k1 y230 (x4_1.take ((ji22) : Int).toNat) l0 (l0.length : Int) (wrap64 (x13_1 + 1))) else (none)) = some r := by first | (rw [hy230]; with_reducible exact H) | (have H2_ := (Option.bind_some _ _).symm.trans H; rw [hy230]; with_reducible exact H2_) | (have H2_ := (Option.bind_some _ _).symm.trans H; with_reducible exact H2_) | with_reducible exact H | (rw [hy230]; exact H) | exact H
                 have Ny230 := Aside0.mk hy230
                 clear hy230
                 by_cases c29 : (ji22) ≤ (x4_1.length : Int)
                 ·rw [if_pos c29] at H
                  have c29b0 := eq_true c29
                  have c29b1 : decide ((ji22) ≤ (x4_1.length : Int)) = true := decide_eq_true c29
                  clear c29
                  obtain ⟨y231, hy231⟩ : ∃ y_ : List Int, y_ = (x4_1.take ((ji22) : Int).toNat) := ⟨_, rfl⟩
                  replace H : (bidi_matches.l0 k1 y230 y231 l0 (l0.length : Int) (wrap64 (x13_1 + 1))) = some r := by first | (rw [hy231]; with_reducible exact H) | (have H2_ := (Option.bind_some _ _).symm.trans H; rw [hy231]; with_reducible exact H2_) | (have H2_ := (Option.bind_some _ _).symm.trans H; with_reducible exact H2_) | with_reducible exact H | (rw [hy231]; exact H) | exact H
                  have Ny231 := Aside0.mk hy231
                  clear hy231
                  have H' := Aside0.mk H
                  clear H
                  have p221 : 0 ≤ (x13_1 : Int) := of_decide_eq_true (by first | (with_reducible assumption) | assumption)
                  have q221 : x13_1 < (l0.length : Int) := of_decide_eq_true (by first | (with_reducible assumption) | assumption)
                  obtain ⟨ad221, e221, hx221_0⟩ := Kd.at_int HR0.out x13_1 p221 q221
                  cases e221
                  replace hx221_0 := (HB.out.cell (World.block_lt_of_cell? w _ hx221_0)).trans hx221_0
                  replace p221 := eq_true p221
                  replace q221 := eq_true q221
                  have p10 : 0 ≤ (x13_1 : Int) := of_decide_eq_true (by first | (with_reducible assumption) | assumption)
                  have q10 : (x13_1 : Int) < ((x3_1.length : Int) : Int) := of_decide_eq_true (by first | (with_reducible assumption) | assumption)
                  obtain ⟨go10, co10, eo10, gb10, gl10, cl10, HG10⟩ := Kd.R_form HO_3.out (by omega)
                  (first | cases eo10 | (injection eo10 with ea_ en_ ec_; (first | subst ea_ | (injection ea_ with ea_; subst ea_)); subst ec_; clear en_))
                  have GB10 := Aside0.mk gb10
                  have GG10 := Aside0.mk HG10
                  clear gb10 gl10 HG10
                  obtain ⟨hx10_0, hf10_0⟩ := Kd.R_celln 0 HO_3.out (x13_1 : Int) p10 q10
                  replace p10 := eq_true p10
                  replace q10 := eq_true q10
                  have HP30 := Kd.R_putg HO_3.out (x13_1 : Int) (-1)
                  try go_wp2_with (first | ((with_reducible refine gate_store (t := 3) (p := 20) rfl ?_); refine store_event (t := 3) (p := 20) (v := ?vo_w31) (w1 := (wr.setCell ⟨go10, (x13_1 : Int).toNat, none⟩ (.int .i64 (-1)))) ?hg ?ho ?hn ?hr ?_; (case ho => rfl); (case hg => rfl); (case hn => rfl); (case hr => first | (go_simp; done) | (go_simp; rfl)); intro w31 hw; have hg : wr.grownBy w31 (some go10) := (by rw [hw]; exact HP30.2); have hp_ : Kd.R (Kd.int .i64) 3 w31 w.heap.size (fun k_ => some k_ ≠ (u4 : Value).ownBlock) (.slice (some ⟨go10, 0, none⟩) x3_1.length co10) y222 := (by rw [hw, Ny222.out]; exact HP30.1); clear HP30; have n0_ := Aside0.mk (hp_); have n1_ := Aside0.mk (Kd.R_after (v := (.slice (some ⟨go10, 0, none⟩) x3_1.length co10)) (v1 := (.slice (some ⟨go10, 0, none⟩) x3_1.length co10)) (ok := (fun _ => True)) (by (with_reducible repeat (first | apply Kd.R_alloc | apply Kd.R_drewN | apply Kd.R_drew)); exact Kd.R_mono HO_4.out (fun _ hk => ⟨trivial, hk⟩)) hg (.inl rfl)); have n2_ := Aside0.mk ((by rw [hw]; exact below_set (HB.out) GB10.out : Below w.heap.size w w31)); clear HO_3; clear HO_4; clear HB; have HO_3 := n0_; have HO_4 := n1_; have HB := n2_; clear n0_ n1_ n2_; clear hg hw hp_) | ((with_reducible refine gate_callee (f := 64) rfl ?_); refine goesL_ (some 23) rfl rfl Try.func64 (by kernel_rfl) rfl #[.int .i64 (rd l0 x13_1)] rfl (by (try simp only [List.map_toArray, List.map_cons, List.map_nil]); first | done | rfl | (simp only [List.length_drop, List.length_take]; rfl)) ?_; (with_reducible refine (bidi_opener.calls (rd l0 x13_1) false _ A11.out).mono ?_); rintro e w' ⟨rfl, ⟨nd, rfl⟩⟩; refine ⟨_, rfl, ?_⟩; (try (rw [drewN_self w31]; generalize hq_ : World.drewN w31 _ = w31; have n0_ : Aside0 (Kd.R (Kd.int .i64) 3 w31 w.heap.size (fun k_ => some k_ ≠ (u4 : Value).ownBlock) (.slice (some ⟨go10, 0, none⟩) x3_1.length co10) y222) := ⟨by rw [← hq_]; exact (by (with_reducible repeat (first | apply Kd.R_alloc | apply Kd.R_drewN | apply Kd.R_drew)); exact HO_3.out)⟩; have n1_ : Aside0 (Kd.R (Kd.int .i64) 3 w31 w.heap.size (fun k_ => some k_ ≠ (.slice (some ⟨go10, 0, none⟩) x3_1.length co10 : Value).ownBlock) u4 x4_1) := ⟨by rw [← hq_]; exact (by (with_reducible repeat (first | apply Kd.R_alloc | apply Kd.R_drewN | apply Kd.R_drew)); exact Kd.R_mono HO_4.out (fun _ hk => hk.2))⟩; have n2_ : Aside0 (Below w.heap.size w w31) := ⟨by rw [← hq_]; exact (by repeat (first | (with_reducible first | exact HB.out | apply below_alloc | apply pw_below_drewN | apply below_drew1) | exact HB.out))⟩; clear HO_3 HO_4 HB hq_; have HO_3 := n0_; have HO_4 := n1_; have HB := n2_; clear n0_ n1_ n2_)); obtain ⟨Ao32, co32, eo32⟩ := Kd.R_slice HO_4.out; subst eo32) | (go_at_call 64; (with_reducible refine (bidi_opener.calls (rd l0 x13_1) false _ A11.out).mono ?_); rintro e w' ⟨rfl, ⟨nd, rfl⟩⟩))
                  have n0_ := Aside0.mk (Kd.R_drew HO_3.out)
                  have n1_ := Aside0.mk (Kd.R_drew HO_4.out)
                  have n2_ := Aside0.mk (below_drew1 HB.out)
                  clear HO_3
                  clear HO_4
                  clear HB
                  have HO_3 := n0_
                  have HO_4 := n1_
                  have HB := n2_
                  clear n0_ n1_ n2_
                  have p227 : 0 ≤ ((ji22) : Int) := of_decide_eq_true (by first | (with_reducible assumption) | assumption)
                  have q227 : (ji22) < (x4_1.length : Int) := of_decide_eq_true (by first | (with_reducible assumption) | assumption)
                  obtain ⟨ad227, e227, hx227_0⟩ := Kd.at_int (Kd.R_reads' HO_4.out).2.2 (ji22) p227 q227
                  cases e227
                  replace p227 := eq_true p227
                  replace q227 := eq_true q227
                  have p228 : 0 ≤ ((ji22) : Int) := of_decide_eq_true (by first | (with_reducible assumption) | assumption)
                  have q228 : (ji22) < (x4_1.length : Int) := of_decide_eq_true (by first | (with_reducible assumption) | assumption)
                  obtain ⟨ad228, e228, hx228_0⟩ := Kd.at_int (Kd.R_reads' HO_4.out).2.2 (ji22) p228 q228
                  obtain rfl : ad227 = ad228 := (by injection e228)
                  replace p228 := eq_true p228
                  replace q228 := eq_true q228
                  have p25 : 0 ≤ (x13_1 : Int) := of_decide_eq_true (by first | (with_reducible assumption) | assumption)
                  have q25 : (x13_1 : Int) < ((x3_1.length : Int) : Int) := of_decide_eq_true (by first | (with_reducible assumption) | assumption)
                  obtain ⟨hx25_0, hf25_0⟩ := Kd.R_celln 0 HO_3.out (x13_1 : Int) p25 q25
                  replace p25 := eq_true p25
                  replace q25 := eq_true q25
                  have HP34 := Kd.R_putn HO_3.out (x13_1 : Int) (rd x4_1 (ji22))
                  rw [← Ny229.out] at HP34
                  have HQ34 := Aside0.mk HP34
                  clear HP34
                  have p28 : 0 ≤ ((rd x4_1 (ji22)) : Int) := of_decide_eq_true (by first | (with_reducible assumption) | assumption)
                  have q28 : ((rd x4_1 (ji22)) : Int) < ((x3_1.length : Int) : Int) := of_decide_eq_true (by first | (with_reducible assumption) | assumption)
                  obtain ⟨hx28_0, hf28_0⟩ := Kd.R_celln 0 HQ34.out ((rd x4_1 (ji22)) : Int) p28 q28
                  replace p28 := eq_true p28
                  replace q28 := eq_true q28
                  have HP35 := Kd.R_putn HQ34.out ((rd x4_1 (ji22)) : Int) x13_1
                  rw [← Ny230.out] at HP35
                  have HQ35 := Aside0.mk HP35
                  clear HP35
                  refine start_ (n := 16) (S := fun w' => w'.cell? (ad227.add ((ji22)).toNat) = some (.int .i64 (rd x4_1 (ji22))) ∧ w'.cell? (ad227.add ((ji22)).toNat) = some (.int .i64 (rd x4_1 (ji22)))) (ds := [13, 15]) #[false, false, false, false, false, false, false, false, false, false, false, false, false, false, false, false] (by kernel_rfl) rfl rfl ⟨hx227_0, hx228_0⟩ (fun hHeld => ?_); refine with_tabW bidi_matches.tab13 bidi_matches.bits13 (fun HT_ HW_ => ?_)
                  generalize w31.drew = w33 at HO_3 HO_4 HB HQ34 HQ35 hf25_0 hf28_0 hx227_0 hx228_0 hx25_0 hx28_0 hHeld ⊢
                  refine pure_ (i := 0) (N := some 42) (v := ?_) (a' := ?_) #[true, false, false, false, false, false, false, false, false, false, false, false, false, false, false, false] rfl rfl (any_of HT_.out (by kernel_rfl)) (fun _ _ _ h => h) (Or.inl ⟨by rfl, ?_⟩) ?_ ?_
                  rotate_left
                  ·intro w'
                   go_simp
                   with_reducible rfl
                  rotate_left
                  ·simp only [Act.put, List.setIfInBounds_toArray, List.set_cons_zero, List.set_cons_succ, i64_w, i32_w]
                   rfl
                  refine pure_ (i := 1) (N := some 43) (v := ?_) (a' := ?_) #[true, true, false, false, false, false, false, false, false, false, false, false, false, false, false, false] rfl rfl (any_of HT_.out (by kernel_rfl)) (fun _ _ _ h => h) (Or.inl ⟨by rfl, ?_⟩) ?_ ?_
                  rotate_left
                  ·intro w'
                   go_simp
                   with_reducible rfl
                  rotate_left
                  ·simp only [Act.put, List.setIfInBounds_toArray, List.set_cons_zero, List.set_cons_succ, i64_w, i32_w]
                   rfl
                  refine pure_ (i := 2) (N := some 44) (v := ?_) (a' := ?_) #[true, true, true, false, false, false, false, false, false, false, false, false, false, false, false, false] rfl rfl (any_of HT_.out (by kernel_rfl)) (fun _ _ _ h => h) (Or.inl ⟨by rfl, ?_⟩) ?_ ?_
                  rotate_left
                  ·intro w'
                   go_simp
                   with_reducible rfl
                  rotate_left
                  ·simp only [Act.put, List.setIfInBounds_toArray, List.set_cons_zero, List.set_cons_succ, i64_w, i32_w]
                   rfl
                  refine pure_ (i := 3) (N := some 45) (v := ?_) (a' := ?_) #[true, true, true, true, false, false, false, false, false, false, false, false, false, false, false, false] rfl rfl (any_of HT_.out (by kernel_rfl)) (fun _ _ _ h => h) (Or.inl ⟨by rfl, ?_⟩) ?_ ?_
                  rotate_left
                  ·intro w'
                   go_simp
                   with_reducible rfl
                  rotate_left
                  ·simp only [Act.put, List.setIfInBounds_toArray, List.set_cons_zero, List.set_cons_succ, i64_w, i32_w]
                   rfl
                  refine pure_ (i := 4) (N := some 46) (v := ?_) (a' := ?_) #[true, true, true, true, true, false, false, false, false, false, false, false, false, false, false, false] rfl rfl (any_of HT_.out (by kernel_rfl)) (fun _ _ _ h => h) (Or.inl ⟨by rfl, ?_⟩) ?_ ?_
                  rotate_left
                  ·intro w'
                   go_simp
                   with_reducible rfl
                  rotate_left
                  ·simp only [Act.put, List.setIfInBounds_toArray, List.set_cons_zero, List.set_cons_succ, i64_w, i32_w]
                   rfl
                  refine pure_ (i := 5) (N := some 47) (v := ?_) (a' := ?_) #[true, true, true, true, true, true, false, false, false, false, false, false, false, false, false, false] rfl rfl (any_of HT_.out (by kernel_rfl)) (fun _ _ _ h => h) (Or.inl ⟨by rfl, ?_⟩) ?_ ?_
                  rotate_left
                  ·intro w'
                   go_simp
                   with_reducible rfl
                  rotate_left
                  ·simp only [Act.put, List.setIfInBounds_toArray, List.set_cons_zero, List.set_cons_succ, i64_w, i32_w]
                   rfl
                  refine pure_ (i := 7) (N := some 49) (v := ?_) (a' := ?_) #[true, true, true, true, true, true, false, true, false, false, false, false, false, false, false, false] rfl rfl (any_of HT_.out (by kernel_rfl)) (fun _ _ _ h => h) (Or.inl ⟨by rfl, ?_⟩) ?_ ?_
                  rotate_left
                  ·intro w'
                   go_simp
                   with_reducible rfl
                  rotate_left
                  ·simp only [Act.put, List.setIfInBounds_toArray, List.set_cons_zero, List.set_cons_succ, i64_w, i32_w]
                   rfl
                  refine pure_ (i := 8) (N := some 50) (v := ?_) (a' := ?_) #[true, true, true, true, true, true, false, true, true, false, false, false, false, false, false, false] rfl rfl (any_of HT_.out (by kernel_rfl)) (fun _ _ _ h => h) (Or.inl ⟨by rfl, ?_⟩) ?_ ?_
                  rotate_left
                  ·intro w'
                   go_simp
                   with_reducible rfl
                  rotate_left
                  ·simp only [Act.put, List.setIfInBounds_toArray, List.set_cons_zero, List.set_cons_succ, i64_w, i32_w]
                   rfl
                  refine pure_ (i := 9) (N := some 51) (v := ?_) (a' := ?_) #[true, true, true, true, true, true, false, true, true, true, false, false, false, false, false, false] rfl rfl (any_of HT_.out (by kernel_rfl)) (fun _ _ _ h => h) (Or.inl ⟨by rfl, ?_⟩) ?_ ?_
                  rotate_left
                  ·intro w'
                   go_simp
                   with_reducible rfl
                  rotate_left
                  ·simp only [Act.put, List.setIfInBounds_toArray, List.set_cons_zero, List.set_cons_succ, i64_w, i32_w]
                   rfl
                  refine pure_ (i := 11) (N := some 53) (v := ?_) (a' := ?_) #[true, true, true, true, true, true, false, true, true, true, false, true, false, false, false, false] rfl rfl (any_of HT_.out (by kernel_rfl)) (fun _ _ _ h => h) (Or.inl ⟨by rfl, ?_⟩) ?_ ?_
                  rotate_left
                  ·intro w'
                   go_simp
                   with_reducible rfl
                  rotate_left
                  ·simp only [Act.put, List.setIfInBounds_toArray, List.set_cons_zero, List.set_cons_succ, i64_w, i32_w]
                   rfl
                  refine take_ (i := 6) (N := some 48) (v := ?_) (a' := ?_) #[true, true, true, true, true, true, true, true, true, true, false, true, false, false, false, false] rfl rfl (take_ofW HT_.out HW_.out (by kernel_rfl)) (fun _ _ _ h => h) (Or.inl ⟨by rfl, ?_⟩) hHeld ?_ ?_
                  rotate_left
                  ·rintro w' ⟨s0, s1⟩
                   go_simp
                   with_reducible rfl
                  rotate_left
                  ·simp only [Act.put, List.setIfInBounds_toArray, List.set_cons_zero, List.set_cons_succ, i64_w, i32_w]
                   rfl
                  refine take_ (i := 10) (N := some 52) (v := ?_) (a' := ?_) #[true, true, true, true, true, true, true, true, true, true, true, true, false, false, false, false] rfl rfl (take_ofW HT_.out HW_.out (by kernel_rfl)) (fun _ _ _ h => h) (Or.inl ⟨by rfl, ?_⟩) hHeld ?_ ?_
                  rotate_left
                  ·rintro w' ⟨s0, s1⟩
                   go_simp
                   with_reducible rfl
                  rotate_left
                  ·simp only [Act.put, List.setIfInBounds_toArray, List.set_cons_zero, List.set_cons_succ, i64_w, i32_w]
                   rfl
                  refine pure_ (i := 12) (N := some 54) (v := ?_) (a' := ?_) #[true, true, true, true, true, true, true, true, true, true, true, true, true, false, false, false] rfl rfl (any_of HT_.out (by kernel_rfl)) (fun _ _ _ h => h) (Or.inl ⟨by rfl, ?_⟩) ?_ ?_
                  rotate_left
                  ·intro w'
                   go_simp
                   with_reducible rfl
                  rotate_left
                  ·simp only [Act.put, List.setIfInBounds_toArray, List.set_cons_zero, List.set_cons_succ, i64_w, i32_w]
                   rfl
                  refine last_ (i := 13) (N := none) #[true, true, true, true, true, true, true, true, true, true, true, true, true, true, false, false] rfl rfl (one_of HT_.out (by kernel_rfl)) (by decide) (fun K hK => ?_)
                  refine skip_ (w1 := ?_) (by rfl) rfl ?_ ?_
                  rotate_left
                  ·go_simp
                   rfl
                  refine hK.out _ _ ?_
                  clear hK K
                  refine pure_ (i := 14) (N := some 55) (v := ?_) (a' := ?_) #[true, true, true, true, true, true, true, true, true, true, true, true, true, true, true, false] rfl rfl (any_of HT_.out (by kernel_rfl)) (fun _ _ _ h => h) (Or.inl ⟨by rfl, ?_⟩) ?_ ?_
                  rotate_left
                  ·intro w'
                   go_simp
                   with_reducible rfl
                  rotate_left
                  ·simp only [Act.put, List.setIfInBounds_toArray, List.set_cons_zero, List.set_cons_succ, i64_w, i32_w]
                   rfl
                  refine last_ (i := 15) (N := none) #[true, true, true, true, true, true, true, true, true, true, true, true, true, true, true, true] rfl rfl (one_of HT_.out (by kernel_rfl)) (by decide) (fun K hK => ?_)
                  refine skip_ (w1 := ?_) (by rfl) rfl ?_ ?_
                  rotate_left
                  ·go_simp
                   rfl
                  refine hK.out _ _ ?_
                  clear hK K
                  refine done_ (done_of HT_.out (by kernel_rfl)) ?_
                  have n0_ : Aside0 (Kd.R (Kd.int .i64) 3 ((w33.setCell ⟨go10, (x13_1 : Int).toNat, none⟩ (.int .i64 (rd x4_1 (ji22)))).setCell ⟨go10, ((rd x4_1 (ji22)) : Int).toNat, none⟩ (.int .i64 x13_1)) w.heap.size (fun k_ => some k_ ≠ (.slice (some ad227) x4_1.length co32 : Value).ownBlock) (.slice (some ⟨go10, 0, none⟩) x3_1.length co10) y230) := ⟨by (with_reducible repeat (first | apply Kd.R_alloc | apply Kd.R_drewN | apply Kd.R_drew)); exact HQ35.out⟩
                  have n1_ : Aside0 (Kd.R (Kd.int .i64) 3 ((w33.setCell ⟨go10, (x13_1 : Int).toNat, none⟩ (.int .i64 (rd x4_1 (ji22)))).setCell ⟨go10, ((rd x4_1 (ji22)) : Int).toNat, none⟩ (.int .i64 x13_1)) w.heap.size (fun k_ => some k_ ≠ (.slice (some ⟨go10, 0, none⟩) x3_1.length co10 : Value).ownBlock) (.slice (some ad227) x4_1.length co32) x4_1) := ⟨by (with_reducible repeat (first | apply Kd.R_alloc | apply Kd.R_drewN | apply Kd.R_drew)); exact Kd.R_mono (Kd.R_far (p := ⟨go10, ((rd x4_1 (ji22)) : Int).toNat, none⟩) (Kd.R_far (p := ⟨go10, (x13_1 : Int).toNat, none⟩) (Kd.R_mono HO_4.out (fun k_ hk => (⟨hk, fun e_ => hk (by rw [e_]; rfl)⟩ : _ ∧ k_ ≠ go10))) (fun _ hk => hk.2) (.int .i64 (rd x4_1 (ji22)))) (fun _ hk => hk.2) (.int .i64 x13_1)) (fun _ hk => hk.1)⟩
                  have n2_ : Aside0 (Below w.heap.size w ((w33.setCell ⟨go10, (x13_1 : Int).toNat, none⟩ (.int .i64 (rd x4_1 (ji22)))).setCell ⟨go10, ((rd x4_1 (ji22)) : Int).toNat, none⟩ (.int .i64 x13_1))) := ⟨by repeat (first | (with_reducible first | exact HB.out | apply below_alloc | apply pw_below_drewN | apply below_drew1 | refine below_set ?_ GB10.out | refine below_set ?_ GB10.out) | exact HB.out)⟩
                  (try clear HO_3)
                  (try clear HO_4)
                  (try clear HB)
                  generalize ((w33.setCell ⟨go10, (x13_1 : Int).toNat, none⟩ (.int .i64 (rd x4_1 (ji22)))).setCell ⟨go10, ((rd x4_1 (ji22)) : Int).toNat, none⟩ (.int .i64 x13_1)) = w36 at n0_ n1_ n2_ ⊢
                  have HO_3 := n0_
                  have HO_4 := n1_
                  have HB := n2_
                  clear n0_ n1_ n2_
                  have q37 : ((ji22) : Int) ≤ ((x4_1.length : Int) : Int) := of_decide_eq_true (by first | (with_reducible assumption) | assumption)
                  obtain ⟨i037, hi037, _, hsz37, _⟩ := info_parts info3
                  have hcut37 := cut_to (P := Try.prog) 42 3 .i64 Try.underlying42 hi037 (some ad227) x4_1.length co32 (ji22) (of_decide_eq_true (by first | (with_reducible assumption) | assumption)) q37 (Kd.R_reads' HO_4.out).2.1
                  have hr37 := Kd.R_take (m := ((ji22) : Int).toNat) HO_4.out (by omega)
                  have hy37 : y231.length = ((ji22) : Int).toNat := (by rw [Ny231.out, List.length_take]; omega)
                  rw [← Ny231.out] at hr37
                  rw [← hy37] at hr37 hcut37
                  clear hy37 hi037 hsz37 HO_4
                  have HO233 := Aside0.mk hr37
                  clear hr37
                  replace q37 := eq_true q37
                  try go_wp2
                  go_roundg k1
                  case measure => have := HK1.out; omega
                  case rel => exact ⟨(y230), (y231), (wrap64 (x13_1 + 1)), (by first | rfl | (simp; done) | (simp [*]; done)), H', ⟨by have := HK1.out; omega⟩, ⟨by (with_reducible repeat (first | apply Kd.R_alloc | apply Kd.R_drewN | apply Kd.R_drew)); exact HO_3.out⟩, ⟨by (with_reducible repeat (first | apply Kd.R_alloc | apply Kd.R_drewN | apply Kd.R_drew)); exact HO233.out⟩, ⟨by repeat (first | (with_reducible first | exact HB.out | apply below_alloc | apply pw_below_drewN | apply below_drew1) | exact HB.out)⟩⟩
                 ·rw [if_neg c29] at H
                  exact absurd H (by simp)
                ·rw [if_neg c27] at H
                 exact absurd H (by simp)
               ·rw [if_neg c26] at H
                exact absurd H (by simp)
              ·rw [if_neg c24] at H
               exact absurd H (by simp)
             ·rw [if_neg c23] at H
              exact absurd H (by simp)
            ·rw [if_neg c21] at H
             have c21b0 : decide (0 < (x4_1.length : Int)) = false := decide_eq_false c21
             have c21b1 : decide (0 < x4_1.length) = false := decide_eq_false (by omega)
             clear c21
             have H' := Aside0.mk H
             clear H
             have p221 : 0 ≤ (x13_1 : Int) := of_decide_eq_true (by first | (with_reducible assumption) | assumption)
             have q221 : x13_1 < (l0.length : Int) := of_decide_eq_true (by first | (with_reducible assumption) | assumption)
             obtain ⟨ad221, e221, hx221_0⟩ := Kd.at_int HR0.out x13_1 p221 q221
             cases e221
             replace hx221_0 := (HB.out.cell (World.block_lt_of_cell? w _ hx221_0)).trans hx221_0
             replace p221 := eq_true p221
             replace q221 := eq_true q221
             have p10 : 0 ≤ (x13_1 : Int) := of_decide_eq_true (by first | (with_reducible assumption) | assumption)
             have q10 : (x13_1 : Int) < ((x3_1.length : Int) : Int) := of_decide_eq_true (by first | (with_reducible assumption) | assumption)
             obtain ⟨go10, co10, eo10, gb10, gl10, cl10, HG10⟩ := Kd.R_form HO_3.out (by omega)
             (first | cases eo10 | (injection eo10 with ea_ en_ ec_; (first | subst ea_ | (injection ea_ with ea_; subst ea_)); subst ec_; clear en_))
             have GB10 := Aside0.mk gb10
             have GG10 := Aside0.mk HG10
             clear gb10 gl10 HG10
             obtain ⟨hx10_0, hf10_0⟩ := Kd.R_celln 0 HO_3.out (x13_1 : Int) p10 q10
             replace p10 := eq_true p10
             replace q10 := eq_true q10
             have HP38 := Kd.R_putg HO_3.out (x13_1 : Int) (-1)
             go_wp2_with (first | ((with_reducible refine gate_store (t := 3) (p := 20) rfl ?_); refine store_event (t := 3) (p := 20) (v := ?vo_w39) (w1 := (wr.setCell ⟨go10, (x13_1 : Int).toNat, none⟩ (.int .i64 (-1)))) ?hg ?ho ?hn ?hr ?_; (case ho => rfl); (case hg => rfl); (case hn => rfl); (case hr => first | (go_simp; done) | (go_simp; rfl)); intro w39 hw; have hg : wr.grownBy w39 (some go10) := (by rw [hw]; exact HP38.2); have hp_ : Kd.R (Kd.int .i64) 3 w39 w.heap.size (fun k_ => some k_ ≠ (u4 : Value).ownBlock) (.slice (some ⟨go10, 0, none⟩) x3_1.length co10) y222 := (by rw [hw, Ny222.out]; exact HP38.1); clear HP38; have n0_ := Aside0.mk (hp_); have n1_ := Aside0.mk (Kd.R_after (v := (.slice (some ⟨go10, 0, none⟩) x3_1.length co10)) (v1 := (.slice (some ⟨go10, 0, none⟩) x3_1.length co10)) (ok := (fun _ => True)) (by (with_reducible repeat (first | apply Kd.R_alloc | apply Kd.R_drewN | apply Kd.R_drew)); exact Kd.R_mono HO_4.out (fun _ hk => ⟨trivial, hk⟩)) hg (.inl rfl)); have n2_ := Aside0.mk ((by rw [hw]; exact below_set (HB.out) GB10.out : Below w.heap.size w w39)); clear HO_3; clear HO_4; clear HB; have HO_3 := n0_; have HO_4 := n1_; have HB := n2_; clear n0_ n1_ n2_; clear hg hw hp_) | ((with_reducible refine gate_callee (f := 64) rfl ?_); refine goesL_ (some 23) rfl rfl Try.func64 (by kernel_rfl) rfl #[.int .i64 (rd l0 x13_1)] rfl (by (try simp only [List.map_toArray, List.map_cons, List.map_nil]); first | done | rfl | (simp only [List.length_drop, List.length_take]; rfl)) ?_; (with_reducible refine (bidi_opener.calls (rd l0 x13_1) false _ A11.out).mono ?_); rintro e w' ⟨rfl, ⟨nd, rfl⟩⟩; refine ⟨_, rfl, ?_⟩; obtain ⟨Ao40, co40, eo40⟩ := Kd.R_slice HO_4.out; subst eo40) | (go_at_call 64; (with_reducible refine (bidi_opener.calls (rd l0 x13_1) false _ A11.out).mono ?_); rintro e w' ⟨rfl, ⟨nd, rfl⟩⟩))
             go_roundg k1
             case measure => have := HK1.out; omega
             case rel => exact ⟨(y222), (x4_1), (wrap64 (x13_1 + 1)), (by first | rfl | (simp; done) | (simp [*]; done)), H', ⟨by have := HK1.out; omega⟩, ⟨by (with_reducible repeat (first | apply Kd.R_alloc | apply Kd.R_drewN | apply Kd.R_drew)); exact HO_3.out⟩, ⟨by (with_reducible repeat (first | apply Kd.R_alloc | apply Kd.R_drewN | apply Kd.R_drew)); exact Kd.R_mono HO_4.out (fun _ hk => hk.2)⟩, ⟨by repeat (first | (with_reducible first | exact HB.out | apply below_alloc | apply pw_below_drewN | apply below_drew1) | exact HB.out)⟩⟩
           ·rw [if_neg c20] at H
            have c20b0 : ((rd l0 x13_1) == 22) = false := beq_eq_false_iff_ne.mpr c20
            have c20b1 : ((rd l0 x13_1) != 22) = true := bne_iff_ne.mpr c20
            have H' := Aside0.mk H
            clear H
            have p221 : 0 ≤ (x13_1 : Int) := of_decide_eq_true (by first | (with_reducible assumption) | assumption)
            have q221 : x13_1 < (l0.length : Int) := of_decide_eq_true (by first | (with_reducible assumption) | assumption)
            obtain ⟨ad221, e221, hx221_0⟩ := Kd.at_int HR0.out x13_1 p221 q221
            cases e221
            replace hx221_0 := (HB.out.cell (World.block_lt_of_cell? w _ hx221_0)).trans hx221_0
            replace p221 := eq_true p221
            replace q221 := eq_true q221
            have p10 : 0 ≤ (x13_1 : Int) := of_decide_eq_true (by first | (with_reducible assumption) | assumption)
            have q10 : (x13_1 : Int) < ((x3_1.length : Int) : Int) := of_decide_eq_true (by first | (with_reducible assumption) | assumption)
            obtain ⟨go10, co10, eo10, gb10, gl10, cl10, HG10⟩ := Kd.R_form HO_3.out (by omega)
            (first | cases eo10 | (injection eo10 with ea_ en_ ec_; (first | subst ea_ | (injection ea_ with ea_; subst ea_)); subst ec_; clear en_))
            have GB10 := Aside0.mk gb10
            have GG10 := Aside0.mk HG10
            clear gb10 gl10 HG10
            obtain ⟨hx10_0, hf10_0⟩ := Kd.R_celln 0 HO_3.out (x13_1 : Int) p10 q10
            replace p10 := eq_true p10
            replace q10 := eq_true q10
            have HP41 := Kd.R_putg HO_3.out (x13_1 : Int) (-1)
            go_wp2_with (first | ((with_reducible refine gate_store (t := 3) (p := 20) rfl ?_); refine store_event (t := 3) (p := 20) (v := ?vo_w42) (w1 := (wr.setCell ⟨go10, (x13_1 : Int).toNat, none⟩ (.int .i64 (-1)))) ?hg ?ho ?hn ?hr ?_; (case ho => rfl); (case hg => rfl); (case hn => rfl); (case hr => first | (go_simp; done) | (go_simp; rfl)); intro w42 hw; have hg : wr.grownBy w42 (some go10) := (by rw [hw]; exact HP41.2); have hp_ : Kd.R (Kd.int .i64) 3 w42 w.heap.size (fun k_ => some k_ ≠ (u4 : Value).ownBlock) (.slice (some ⟨go10, 0, none⟩) x3_1.length co10) y222 := (by rw [hw, Ny222.out]; exact HP41.1); clear HP41; have n0_ := Aside0.mk (hp_); have n1_ := Aside0.mk (Kd.R_after (v := (.slice (some ⟨go10, 0, none⟩) x3_1.length co10)) (v1 := (.slice (some ⟨go10, 0, none⟩) x3_1.length co10)) (ok := (fun _ => True)) (by (with_reducible repeat (first | apply Kd.R_alloc | apply Kd.R_drewN | apply Kd.R_drew)); exact Kd.R_mono HO_4.out (fun _ hk => ⟨trivial, hk⟩)) hg (.inl rfl)); have n2_ := Aside0.mk ((by rw [hw]; exact below_set (HB.out) GB10.out : Below w.heap.size w w42)); clear HO_3; clear HO_4; clear HB; have HO_3 := n0_; have HO_4 := n1_; have HB := n2_; clear n0_ n1_ n2_; clear hg hw hp_) | ((with_reducible refine gate_callee (f := 64) rfl ?_); refine goesL_ (some 23) rfl rfl Try.func64 (by kernel_rfl) rfl #[.int .i64 (rd l0 x13_1)] rfl (by (try simp only [List.map_toArray, List.map_cons, List.map_nil]); first | done | rfl | (simp only [List.length_drop, List.length_take]; rfl)) ?_; (with_reducible refine (bidi_opener.calls (rd l0 x13_1) false _ A11.out).mono ?_); rintro e w' ⟨rfl, ⟨nd, rfl⟩⟩; refine ⟨_, rfl, ?_⟩) | (go_at_call 64; (with_reducible refine (bidi_opener.calls (rd l0 x13_1) false _ A11.out).mono ?_); rintro e w' ⟨rfl, ⟨nd, rfl⟩⟩))
            go_roundg k1
            case measure => have := HK1.out; omega
            case rel => exact ⟨(y222), (x4_1), (wrap64 (x13_1 + 1)), (by first | rfl | (simp; done) | (simp [*]; done)), H', ⟨by have := HK1.out; omega⟩, ⟨by (with_reducible repeat (first | apply Kd.R_alloc | apply Kd.R_drewN | apply Kd.R_drew)); exact HO_3.out⟩, ⟨by (with_reducible repeat (first | apply Kd.R_alloc | apply Kd.R_drewN | apply Kd.R_drew)); exact Kd.R_mono HO_4.out (fun _ hk => hk.2)⟩, ⟨by repeat (first | (with_reducible first | exact HB.out | apply below_alloc | apply pw_below_drewN | apply below_drew1) | exact HB.out)⟩⟩
        ·rw [if_neg c9] at H
         exact absurd H (by simp)
       ·rw [if_neg c8] at H
        exact absurd H (by simp)
      ·rw [if_neg c7] at H
       exact absurd H (by simp)
     ·rw [if_neg c6] at H
      have c6b0 : decide (x13_1 < (l0.length : Int)) = false := decide_eq_false c6
      clear c6
      obtain rfl := Option.some.inj H
      go_wp2
      go_ret
      exact ⟨_, by first | rfl | (simp [errW_none, errW_some] <;> rfl) | (simp [*, errW_none, errW_some] <;> rfl), by (with_reducible repeat (first | apply Kd.R_alloc | apply Kd.R_drewN | apply Kd.R_drew)); exact Kd.R_mono HO_3.out (fun _ hk => trivial), by repeat (first | (with_reducible first | exact HB.out | apply below_alloc | apply pw_below_drewN | apply below_drew1) | exact HB.out)⟩
  ·rw [if_neg c3] at H
   exact absurd H (by simp)
 ·rw [if_neg c2] at H
  exact absurd H (by simp)

/-! ### bidi_base: function 31 -/
mutual
def bidi_base.l0 : Nat → List Int → List Int → Int → Int → Option (Int)
 | 0, _, _, _, _ => none
 | k + 1, x0, x1, x3, x9 => if x9 < x3 then (if 0 ≤ x9 then (if x9 < (x0.length : Int) then (if (rd x0 x9) = 0 then (some 0) else (if (rd x0 x9) = 1 then (bidi_base.j1 k x0 x1 x3 x9 (rd x0 x9) true) else (bidi_base.j1 k x0 x1 x3 x9 (rd x0 x9) ((rd x0 x9) == 2)))) else (none)) else (none)) else (some 0)
def bidi_base.j1 : Nat → List Int → List Int → Int → Int → Int → Bool → Option (Int)
 | 0, _, _, _, _, _, _ => none
 | k + 1, x0, x1, x3, x9, x10, x24 => if x24 = true then (some 1) else (if x10 = 10 then (some 0) else ((bidi_opener.f x10).bind fun t235 => (if t235 = true then (if 0 ≤ x9 then (if x9 < (x1.length : Int) then (if (rd x1 x9) < 0 then (some 0) else (bidi_base.l0 k x0 x1 x3 (wrap64 ((rd x1 x9) + 1)))) else (none)) else (none)) else (bidi_base.l0 k x0 x1 x3 (wrap64 (x9 + 1))))))
end
def bidi_base.f (k : Nat) (l0 : List Int) (l1 : List Int) (a2 : Int) (a3 : Int) : Option (Int) := bidi_base.l0 k l0 l1 a3 a2
theorem bidi_base.mono_l : ∀ k, (∀ y0 y1 y2 y3, LeO (bidi_base.l0 k y0 y1 y2 y3) (bidi_base.l0 (k + 1) y0 y1 y2 y3)) ∧ (∀ y0 y1 y2 y3 y4 y5, LeO (bidi_base.j1 k y0 y1 y2 y3 y4 y5) (bidi_base.j1 (k + 1) y0 y1 y2 y3 y4 y5))
 | 0 => ⟨fun _ _ _ _ r h => by simp [bidi_base.l0] at h, fun _ _ _ _ _ _ r h => by simp [bidi_base.j1] at h⟩
 | k + 1 => by
  obtain ⟨ih0, ih1⟩ := bidi_base.mono_l k
  refine ⟨?_, ?_⟩
  ·intro y0 y1 y2 y3
   unfold bidi_base.l0
   repeat' first
   | (with_reducible exact ih0 _ _ _ _)
   | (with_reducible exact ih1 _ _ _ _ _ _)
   | (with_reducible exact LeO.refl _)
   | (with_reducible exact LeO.none _)
   | (with_reducible refine LeO.ite ?_ ?_)
   | (with_reducible refine LeO.bind ?_ (fun _ => ?_))
   | exact ih0 _ _ _ _
   | exact ih1 _ _ _ _ _ _
   | exact LeO.none _
   | refine LeO.ite ?_ ?_
   | refine LeO.bind ?_ (fun _ => ?_)
  ·intro y0 y1 y2 y3 y4 y5
   unfold bidi_base.j1
   repeat' first
   | (with_reducible exact ih0 _ _ _ _)
   | (with_reducible exact ih1 _ _ _ _ _ _)
   | (with_reducible exact LeO.refl _)
   | (with_reducible exact LeO.none _)
   | (with_reducible refine LeO.ite ?_ ?_)
   | (with_reducible refine LeO.bind ?_ (fun _ => ?_))
   | exact ih0 _ _ _ _
   | exact ih1 _ _ _ _ _ _
   | exact LeO.none _
   | refine LeO.ite ?_ ?_
   | refine LeO.bind ?_ (fun _ => ?_)
theorem bidi_base.mono : ∀ a0 a1 a2 a3 k, LeO (bidi_base.f k a0 a1 a2 a3) (bidi_base.f (k + 1) a0 a1 a2 a3) := by
 intro a0 a1 a2 a3 k
 obtain ⟨ih0, ih1⟩ := bidi_base.mono_l k
 unfold bidi_base.f
 repeat' first
   | (with_reducible exact ih0 _ _ _ _)
   | (with_reducible exact ih1 _ _ _ _ _ _)
   | (with_reducible exact LeO.refl _)
   | (with_reducible exact LeO.none _)
   | (with_reducible refine LeO.ite ?_ ?_)
   | (with_reducible refine LeO.bind ?_ (fun _ => ?_))
   | exact ih0 _ _ _ _
   | exact ih1 _ _ _ _ _ _
   | exact LeO.none _
   | refine LeO.ite ?_ ?_
   | refine LeO.bind ?_ (fun _ => ?_)
set_option maxHeartbeats 8000000 in
set_option maxRecDepth 100000 in
theorem bidi_base.calls (k : Nat) (A0 : Option Addr) (c0 : Nat) (l0 : List Int) (A1 : Option Addr) (c1 : Nat) (l1 : List Int) (a2 : Int) (a3 : Int) (r : Int) (w : World) (hr0 : Kd.C (Kd.int .i64) w A0 l0.length l0) (hc0 : l0.length ≤ c0) (hr1 : Kd.C (Kd.int .i64) w A1 l1.length l1) (hc1 : l1.length ≤ c1) (h : bidi_base.f k l0 l1 a2 a3 = some r) :
  Calls Try.prog 31 #[.slice A0 l0.length c0, .slice A1 l1.length c1, .int .i64 a2, .int .i64 a3] w fun e w' => e = .returned (.int .i64 r) ∧ Drawn0 w w' := by
 have HR0 := Aside0.mk hr0
 have HC0 := Aside0.mk hc0
 clear hr0 hc0
 have HR1 := Aside0.mk hr1
 have HC1 := Aside0.mk hc1
 clear hr1 hc1
 have H : (bidi_base.l0 k l0 l1 a3 a2) = some r := h
 clear h
 have H' := Aside0.mk H
 clear H
 go_enter Try.func31, Try.ntmps31
 go_wp2
 go_loopg [9] k (fun kq v9 w' => ∃ (x9_1 : Int), v9 = .int .i64 x9_1 ∧ Aside0 (bidi_base.l0 kq l0 l1 a3 x9_1 = some r) ∧ Aside0 (kq ≤ k) ∧ Drawn0 w w')
 case atStart => exact ⟨(a2), (by first | rfl | (simp; done) | (simp [*]; done)), H', ⟨Nat.le_refl _⟩, by repeat (first | exact Drawn0.refl _ | apply Drawn0.step)⟩
 case round =>
  clear H'
  try clear c1
  try clear p2
  try clear c3
  obtain ⟨x9_1, rfl, HA, HK1, ⟨m1, rfl⟩⟩ := hrel
  cases gk with
  | zero => exact absurd HA.out (by simp [bidi_base.l0])
  | succ k1 =>
   have H := HA.out
   clear HA
   simp only [bidi_base.l0] at H
   by_cases c5 : x9_1 < a3
   ·rw [if_pos c5] at H
    have c5b0 : decide (x9_1 < a3) = true := decide_eq_true c5
    clear c5
    by_cases c6 : 0 ≤ x9_1
    ·rw [if_pos c6] at H
     have c6b0 : decide (0 ≤ x9_1) = true := decide_eq_true c6
     clear c6
     by_cases c7 : x9_1 < (l0.length : Int)
     ·rw [if_pos c7] at H
      have c7b0 : decide (x9_1 < (l0.length : Int)) = true := decide_eq_true c7
      clear c7
      by_cases c8 : (rd l0 x9_1) = 0
      ·rw [if_pos c8] at H
       have c8b0 : ((rd l0 x9_1) == 0) = true := beq_iff_eq.mpr c8
       have c8b1 : ((rd l0 x9_1) != 0) = false := bne_eq_false_iff_eq.mpr c8
       clear c8
       obtain rfl := Option.some.inj H
       have p234 : 0 ≤ (x9_1 : Int) := of_decide_eq_true (by first | (with_reducible assumption) | assumption)
       have q234 : x9_1 < (l0.length : Int) := of_decide_eq_true (by first | (with_reducible assumption) | assumption)
       obtain ⟨ad234, e234, hx234_0⟩ := Kd.at_int HR0.out x9_1 p234 q234
       cases e234
       replace p234 := eq_true p234
       replace q234 := eq_true q234
       go_wp2
       go_ret
       exact ⟨by first | rfl | (simp; done) | (simp [*]; done), by repeat (first | exact Drawn0.refl _ | apply Drawn0.step)⟩
      ·rw [if_neg c8] at H
       have c8b0 : ((rd l0 x9_1) == 0) = false := beq_eq_false_iff_ne.mpr c8
       have c8b1 : ((rd l0 x9_1) != 0) = true := bne_iff_ne.mpr c8
       have HC9 := Aside0.mk H
       clear H
       have p234 : 0 ≤ (x9_1 : Int) := of_decide_eq_true (by first | (with_reducible assumption) | assumption)
       have q234 : x9_1 < (l0.length : Int) := of_decide_eq_true (by first | (with_reducible assumption) | assumption)
       obtain ⟨ad234, e234, hx234_0⟩ := Kd.at_int HR0.out x9_1 p234 q234
       cases e234
       replace p234 := eq_true p234
       replace q234 := eq_true q234
       go_upto_region 7 with (fail)
       go_cut [24] (fun v24 wc => ∃ (kq : Nat) (x24_8 : Bool), v24 = .bool x24_8 ∧ Aside0 (bidi_base.j1 kq l0 l1 a3 x9_1 (rd l0 x9_1) x24_8 = some r) ∧ Aside0 (kq ≤ k1) ∧ Drawn0 w wc)
       case first =>
        have H := HC9.out
        clear HC9
        by_cases c10 : (rd l0 x9_1) = 1
        ·rw [if_pos c10] at H
         have c10b0 : ((rd l0 x9_1) == 1) = true := beq_iff_eq.mpr c10
         have c10b1 : ((rd l0 x9_1) != 1) = false := bne_eq_false_iff_eq.mpr c10
         clear c10
         (first | rw [c10b0] | (simp only [i64_w, i32_w]; rw [c10b0]) | skip)
         have H' := Aside0.mk H
         clear H
         go_wp2
         go_meet
         case rel => exact ⟨_, (true), (by first | rfl | (simp; done) | (simp [*]; done)), H', ⟨by have := HK1.out; first | omega | exact Nat.le_refl _⟩, by repeat (first | exact Drawn0.refl _ | apply Drawn0.step)⟩
        ·rw [if_neg c10] at H
         have c10b0 : ((rd l0 x9_1) == 1) = false := beq_eq_false_iff_ne.mpr c10
         have c10b1 : ((rd l0 x9_1) != 1) = true := bne_iff_ne.mpr c10
         (first | rw [c10b0] | (simp only [i64_w, i32_w]; rw [c10b0]) | skip)
         have H' := Aside0.mk H
         clear H
         go_wp2
         go_meet
         case rel => exact ⟨_, (((rd l0 x9_1) == 2)), (by first | rfl | (simp; done) | (simp [*]; done)), H', ⟨by have := HK1.out; first | omega | exact Nat.le_refl _⟩, by repeat (first | exact Drawn0.refl _ | apply Drawn0.step)⟩
       case rest =>
        clear HC9
        try clear c1
        try clear p2
        try clear q2
        try clear hx2
        try clear c3
        try clear c5
        try clear c5b0
        try clear c6
        try clear c6b0
        try clear c7
        try clear c7b0
        try clear c8
        try clear c8b0
        try clear c8b1
        try clear c10
        try clear c10b0
        try clear c10b1
        try clear hx234_0
        try clear p2
        try clear p234
        try clear q234
        obtain ⟨kq, x24_8, rfl, HA, HJ8, ⟨mc8, rfl⟩⟩ := hcut
        cases kq with
        | zero => exact absurd HA.out (by simp [bidi_base.j1])
        | succ kj8 =>
         have H := HA.out
         clear HA
         simp only [bidi_base.j1] at H
         by_cases c11 : x24_8 = true
         ·subst c11
          have H1 : (some 1) = some r := by rw [if_pos rfl] at H; exact H
          clear H
          have H := H1
          clear H1
          obtain rfl := Option.some.inj H
          go_wp2
          go_ret
          exact ⟨by first | rfl | (simp; done) | (simp [*]; done), by repeat (first | exact Drawn0.refl _ | apply Drawn0.step)⟩
         ·replace c11 := Bool.eq_false_iff.mpr c11
          subst c11
          have H1 : (if (rd l0 x9_1) = 10 then (some 0) else ((bidi_opener.f (rd l0 x9_1)).bind fun t235 => (if t235 = true then (if 0 ≤ x9_1 then (if x9_1 < (l1.length : Int) then (if (rd l1 x9_1) < 0 then (some 0) else (bidi_base.l0 kj8 l0 l1 a3 (wrap64 ((rd l1 x9_1) + 1)))) else (none)) else (none)) else (bidi_base.l0 kj8 l0 l1 a3 (wrap64 (x9_1 + 1)))))) = some r := by rw [if_neg (show ¬ (false = true) by decide)] at H; exact H
          clear H
          have H := H1
          clear H1
          by_cases c12 : (rd l0 x9_1) = 10
          ·rw [if_pos c12] at H
           have c12b0 : ((rd l0 x9_1) == 10) = true := beq_iff_eq.mpr c12
           have c12b1 : ((rd l0 x9_1) != 10) = false := bne_eq_false_iff_eq.mpr c12
           clear c12
           obtain rfl := Option.some.inj H
           go_wp2
           go_ret
           exact ⟨by first | rfl | (simp; done) | (simp [*]; done), by repeat (first | exact Drawn0.refl _ | apply Drawn0.step)⟩
          ·rw [if_neg c12] at H
           have c12b0 : ((rd l0 x9_1) == 10) = false := beq_eq_false_iff_ne.mpr c12
           have c12b1 : ((rd l0 x9_1) != 10) = true := bne_iff_ne.mpr c12
           replace H := Option.bind_eq_some_iff.mp H
           obtain ⟨t235, A130, H⟩ := H
           replace H : (if t235 = true then (if 0 ≤ x9_1 then (if x9_1 < (l1.length : Int) then (if (rd l1 x9_1) < 0 then (some 0) else (bidi_base.l0 kj8 l0 l1 a3 (wrap64 ((rd l1 x9_1) + 1)))) else (none)) else (none)) else (bidi_base.l0 kj8 l0 l1 a3 (wrap64 (x9_1 + 1)))) = some r := H
           have A13 := Aside0.mk A130
           clear A130
           by_cases c14 : t235 = true
           ·subst c14
            have H1 : (if 0 ≤ x9_1 then (if x9_1 < (l1.length : Int) then (if (rd l1 x9_1) < 0 then (some 0) else (bidi_base.l0 kj8 l0 l1 a3 (wrap64 ((rd l1 x9_1) + 1)))) else (none)) else (none)) = some r := by rw [if_pos rfl] at H; exact H
            clear H
            have H := H1
            clear H1
            by_cases c15 : 0 ≤ x9_1
            ·rw [if_pos c15] at H
             have c15b0 : decide (0 ≤ x9_1) = true := decide_eq_true c15
             clear c15
             by_cases c16 : x9_1 < (l1.length : Int)
             ·rw [if_pos c16] at H
              have c16b0 : decide (x9_1 < (l1.length : Int)) = true := decide_eq_true c16
              clear c16
              by_cases c17 : (rd l1 x9_1) < 0
              ·rw [if_pos c17] at H
               have c17b0 : decide ((rd l1 x9_1) < 0) = true := decide_eq_true c17
               clear c17
               obtain rfl := Option.some.inj H
               go_wp2_with (first | ((with_reducible refine gate_callee (f := 64) rfl ?_); refine goesL_ (some 36) rfl rfl Try.func64 (by kernel_rfl) rfl #[.int .i64 (rd l0 x9_1)] rfl (by (try simp only [List.map_toArray, List.map_cons, List.map_nil]); first | done | rfl | (simp only [List.length_drop, List.length_take]; rfl)) ?_; (with_reducible refine (bidi_opener.calls (rd l0 x9_1) true _ A13.out).mono ?_); rintro e w' ⟨rfl, ⟨nd, rfl⟩⟩; refine ⟨_, rfl, ?_⟩; have p236 : 0 ≤ (x9_1 : Int) := of_decide_eq_true (by first | (with_reducible assumption) | assumption); have q236 : x9_1 < (l1.length : Int) := of_decide_eq_true (by first | (with_reducible assumption) | assumption); obtain ⟨ad236, e236, hx236_0⟩ := Kd.at_int HR1.out x9_1 p236 q236; cases e236; replace p236 := eq_true p236; replace q236 := eq_true q236) | (go_at_call 64; (with_reducible refine (bidi_opener.calls (rd l0 x9_1) true _ A13.out).mono ?_); rintro e w' ⟨rfl, ⟨nd, rfl⟩⟩))
               go_ret
               exact ⟨by first | rfl | (simp; done) | (simp [*]; done), by repeat (first | exact Drawn0.refl _ | apply Drawn0.step)⟩
              ·rw [if_neg c17] at H
               have c17b0 : decide ((rd l1 x9_1) < 0) = false := decide_eq_false c17
               clear c17
               have H' := Aside0.mk H
               clear H
               go_wp2_with (first | ((with_reducible refine gate_callee (f := 64) rfl ?_); refine goesL_ (some 36) rfl rfl Try.func64 (by kernel_rfl) rfl #[.int .i64 (rd l0 x9_1)] rfl (by (try simp only [List.map_toArray, List.map_cons, List.map_nil]); first | done | rfl | (simp only [List.length_drop, List.length_take]; rfl)) ?_; (with_reducible refine (bidi_opener.calls (rd l0 x9_1) true _ A13.out).mono ?_); rintro e w' ⟨rfl, ⟨nd, rfl⟩⟩; refine ⟨_, rfl, ?_⟩; have p236 : 0 ≤ (x9_1 : Int) := of_decide_eq_true (by first | (with_reducible assumption) | assumption); have q236 : x9_1 < (l1.length : Int) := of_decide_eq_true (by first | (with_reducible assumption) | assumption); obtain ⟨ad236, e236, hx236_0⟩ := Kd.at_int HR1.out x9_1 p236 q236; cases e236; replace p236 := eq_true p236; replace q236 := eq_true q236; have p237 : 0 ≤ (x9_1 : Int) := of_decide_eq_true (by first | (with_reducible assumption) | assumption); have q237 : x9_1 < (l1.length : Int) := of_decide_eq_true (by first | (with_reducible assumption) | assumption); obtain ⟨ad237, e237, hx237_0⟩ := Kd.at_int HR1.out x9_1 p237 q237; obtain rfl : ad236 = ad237 := (by injection e237); replace p237 := eq_true p237; replace q237 := eq_true q237) | (go_at_call 64; (with_reducible refine (bidi_opener.calls (rd l0 x9_1) true _ A13.out).mono ?_); rintro e w' ⟨rfl, ⟨nd, rfl⟩⟩))
               go_roundg kj8
               case measure => have := HK1.out; have := HJ8.out; omega
               case rel => exact ⟨(wrap64 ((rd l1 x9_1) + 1)), (by first | rfl | (simp; done) | (simp [*]; done)), H', ⟨by have := HK1.out; have := HJ8.out; omega⟩, by repeat (first | exact Drawn0.refl _ | apply Drawn0.step)⟩
             ·rw [if_neg c16] at H
              exact absurd H (by simp)
            ·rw [if_neg c15] at H
             exact absurd H (by simp)
           ·replace c14 := Bool.eq_false_iff.mpr c14
            subst c14
            have H1 : (bidi_base.l0 kj8 l0 l1 a3 (wrap64 (x9_1 + 1))) = some r := by rw [if_neg (show ¬ (false = true) by decide)] at H; exact H
            clear H
            have H := H1
            clear H1
            have H' := Aside0.mk H
            clear H
            go_wp2_with (first | ((with_reducible refine gate_callee (f := 64) rfl ?_); refine goesL_ (some 36) rfl rfl Try.func64 (by kernel_rfl) rfl #[.int .i64 (rd l0 x9_1)] rfl (by (try simp only [List.map_toArray, List.map_cons, List.map_nil]); first | done | rfl | (simp only [List.length_drop, List.length_take]; rfl)) ?_; (with_reducible refine (bidi_opener.calls (rd l0 x9_1) false _ A13.out).mono ?_); rintro e w' ⟨rfl, ⟨nd, rfl⟩⟩; refine ⟨_, rfl, ?_⟩) | (go_at_call 64; (with_reducible refine (bidi_opener.calls (rd l0 x9_1) false _ A13.out).mono ?_); rintro e w' ⟨rfl, ⟨nd, rfl⟩⟩))
            go_roundg kj8
            case measure => have := HK1.out; have := HJ8.out; omega
            case rel => exact ⟨(wrap64 (x9_1 + 1)), (by first | rfl | (simp; done) | (simp [*]; done)), H', ⟨by have := HK1.out; have := HJ8.out; omega⟩, by repeat (first | exact Drawn0.refl _ | apply Drawn0.step)⟩
     ·rw [if_neg c7] at H
      exact absurd H (by simp)
    ·rw [if_neg c6] at H
     exact absurd H (by simp)
   ·rw [if_neg c5] at H
    have c5b0 : decide (x9_1 < a3) = false := decide_eq_false c5
    clear c5
    obtain rfl := Option.some.inj H
    go_wp2
    go_ret
    exact ⟨by first | rfl | (simp; done) | (simp [*]; done), by repeat (first | exact Drawn0.refl _ | apply Drawn0.step)⟩

-- NOT PRINTED: function 65 (bidi_stack_reset)

-- NOT PRINTED: function 69 (bidi_stack_top)

-- NOT PRINTED: function 102 (bidi_stack_next)

-- NOT PRINTED: function 103 (bidi_stack_fits)

-- NOT PRINTED: function 66 (bidi_stack_embed)

-- NOT PRINTED: function 70 (bidi_stack_plain)

-- NOT PRINTED: function 67 (bidi_stack_open)

-- NOT PRINTED: function 68 (bidi_stack_shut)

-- NOT PRINTED: function 32 (bidi_text_explicit)

/-! ### bidi_removed: function 71 -/
def bidi_removed.f (a0 : Int) : Option (Bool) := if a0 ≥ 14 then (if a0 ≤ 18 then (some true) else (some (a0 == 9))) else (some (a0 == 9))
set_option maxHeartbeats 8000000 in
set_option maxRecDepth 100000 in
theorem bidi_removed.calls (a0 : Int) (r : Bool) (w : World) (h : bidi_removed.f a0 = some r) :
  Calls Try.prog 71 #[.int .i64 a0] w fun e w' => e = .returned (.bool r) ∧ Drawn0 w w' := by
 have H : (if a0 ≥ 14 then (if a0 ≤ 18 then (some true) else (some (a0 == 9))) else (some (a0 == 9))) = some r := h
 clear h
 by_cases c2 : a0 ≥ 14
 ·rw [if_pos c2] at H
  have c2b0 : decide (14 ≤ a0) = true := decide_eq_true c2
  clear c2
  by_cases c3 : a0 ≤ 18
  ·rw [if_pos c3] at H
   have c3b0 : decide (a0 ≤ 18) = true := decide_eq_true c3
   clear c3
   obtain rfl := Option.some.inj H
   go_enter Try.func71, Try.ntmps71
   go_wp2
   go_ret
   exact ⟨by first | rfl | (simp; done) | (simp [*]; done), by repeat (first | exact Drawn0.refl _ | apply Drawn0.step)⟩
  ·rw [if_neg c3] at H
   have c3b0 : decide (a0 ≤ 18) = false := decide_eq_false c3
   clear c3
   obtain rfl := Option.some.inj H
   go_enter Try.func71, Try.ntmps71
   go_wp2
   go_ret
   exact ⟨by first | rfl | (simp; done) | (simp [*]; done), by repeat (first | exact Drawn0.refl _ | apply Drawn0.step)⟩
 ·rw [if_neg c2] at H
  have c2b0 : decide (14 ≤ a0) = false := decide_eq_false c2
  clear c2
  obtain rfl := Option.some.inj H
  go_enter Try.func71, Try.ntmps71
  go_wp2
  go_ret
  exact ⟨by first | rfl | (simp; done) | (simp [*]; done), by repeat (first | exact Drawn0.refl _ | apply Drawn0.step)⟩

end Go.Proofs.Yteoonjnmghponaa.P
