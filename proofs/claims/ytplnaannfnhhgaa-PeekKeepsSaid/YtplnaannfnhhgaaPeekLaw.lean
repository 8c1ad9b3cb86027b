/- The law of numbers, signs and tags, walked. -/
import Derived.Test.YtplnaannfnhhgaaPeekRef
namespace Go.Proofs.Ytplnaannfnhhgaa.K
open Go.RowKit Go.Proofs.YtplnaannfnhhgaaW.PrintWords Go.Proofs.YtplnaannfnhhgaaW.PrintLast Go.Proofs.YtplnaannfnhhgaaW.PrintMore Go.Proofs.Ytplnaannfnhhgaa.F
attribute [local go_sem] max2_int min2_int max_two min_two max_three min_three max_four min_four
set_option linter.unusedVariables false
set_option linter.unusedSimpArgs false
set_option maxRecDepth 100000 in
set_option maxHeartbeats 4000000 in
theorem alive.calls (w : World) : Calls Try.prog 19 #[] w fun e w' => e = .returned (.bool true) ∧ Below w.heap.size w w' := by
  have hb3 : ∀ z ∈ ([255, 254, 1] : List Int), 0 ≤ z ∧ z ≤ 255 := by decide
  have hnil : ∀ (p : Nat) (W : World), (binOp BinOp.eql 28 (.pointer (some ⟨p, 0, none⟩)) (.pointer none)).run Try.prog W = .ok (.bool false) W := fun _ _ => by kernel_rfl
  have HN := Aside0.mk (fun A0 c0 W hr hc => peek_New.calls A0 c0 ([255, 254, 1] : List Int) W hr hc (by decide))
  have HI : Aside0 (∀ p A c W, View W p A c ([255, 254, 1] : List Int) → Calls Try.prog 29 #[.pointer (some ⟨p, 0, none⟩), .int .i64 0] W fun e w' => e = .returned (.tuple #[.int .i64 (-2), .int .i64 0]) ∧ w' = W) := ⟨fun p A c W h => by
    have e1 : wrap64 (IntKind.i16.wrap (numL (partL ([255, 254, 1] : List Int) 0 2) 0)) = -2 := by decide +kernel
    have e2 : partE ([255, 254, 1] : List Int) 0 2 = 0 := by decide +kernel
    have := peek_I16.calls p A c _ 0 W h hb3
    rw [e1, e2] at this
    exact this⟩
  have HU : Aside0 (∀ p A c W, View W p A c ([255, 254, 1] : List Int) → Calls Try.prog 27 #[.pointer (some ⟨p, 0, none⟩), .int .i64 0] W fun e w' => e = .returned (.tuple #[.int .i64 16776705, .int .i64 0]) ∧ w' = W) := ⟨fun p A c W h => by
    have e1 : numL (partL ([255, 254, 1] : List Int) 0 3) 0 = 16776705 := by decide +kernel
    have e2 : partE ([255, 254, 1] : List Int) 0 3 = 0 := by decide +kernel
    have := peek_U24.calls p A c _ 0 W h hb3
    rw [e1, e2] at this
    exact this⟩
  have HL : Aside0 (∀ p A c W, View W p A c ([255, 254, 1] : List Int) → Calls Try.prog 21 #[.pointer (some ⟨p, 0, none⟩)] W fun e w' => e = .returned (.int .i64 3) ∧ w' = W) := ⟨fun p A c W h => peek_Len.calls p A c _ W h⟩
  clear hb3
  go_enter Try.func19, Try.ntmps19
  go_wp2_with (first | ((with_reducible refine gate_dst (N := 6) rfl ?_); refine Kd.R_lit (Kd.int .u8) _ 5 ?hg (N := 6) ?hd (xs := ([255, 254, 1] : List Int)) (inner := [.int .u8 255, .int .u8 254, .int .u8 1]) (ok := fun _ => True) (okp := fun _ => True) ?hr ?hp (fun _ hk => hk) trivial (Below.refl _ _) (Nat.le_refl _) (by simp) ?_; (case hd => rfl); (case hg => rfl); (case hr => first | (go_simp; done) | (go_simp; rfl)); (case hp => exact (Reps.one (show Kd.M (Kd.int .u8) _ _ _ 255 [.int .u8 255] from rfl) (Reps.one (show Kd.M (Kd.int .u8) _ _ _ 254 [.int .u8 254] from rfl) (Reps.one (show Kd.M (Kd.int .u8) _ _ _ 1 [.int .u8 1] from rfl) (Reps.none _ _))))); intro v1 w1 ho1 hb1 hg_ hnew_; clear hg_ hnew_; obtain ⟨A1, c1, ev⟩ := Kd.R_slice ho1; subst ev; have HO := Aside0.mk ho1; have HB := Aside0.mk hb1; clear ho1 hb1) | (go_at_call 20; (refine (HN.out A1 c1 _ (Kd.R_reads' HO.out).2.2 (Kd.R_reads' HO.out).2.1).mono ?_); rintro e w2 ⟨p, A, c, rfl, hp1, hp2, hblk, hrow, hbel⟩; have HV := Aside0.mk (View.mk hblk (Kd.R_reads' hrow).2.2 (Kd.R_reads' hrow).2.1); have HB2 := Aside0.mk (below_step HB.out hbel); clear hblk hrow hbel HB HO hp1 hp2) | (go_at_call 21; (with_reducible refine (HL.out p A c _ HV.out).mono ?_); rintro e w' ⟨rfl, rfl⟩) | (go_at_call 29; (with_reducible refine (HI.out p A c _ HV.out).mono ?_); rintro e w' ⟨rfl, rfl⟩) | (go_at_call 27; (with_reducible refine (HU.out p A c _ HV.out).mono ?_); rintro e w' ⟨rfl, rfl⟩))
  go_ret
  exact ⟨rfl, HB2.out⟩
set_option maxRecDepth 100000 in
set_option maxHeartbeats 8000000 in
theorem law.calls (A0 : Option Addr) (c0 : Nat) (l : List Int) (at_ : Int) (w : World) (hr0 : Kd.C (Kd.int .u8) w A0 l.length l) (hc0 : l.length ≤ c0) (hl : l.length < 140737488355328) (hb : ∀ z ∈ l, 0 ≤ z ∧ z ≤ 255) :
    Calls Try.prog 4 #[.slice A0 l.length c0, .int .i64 at_] w fun e w' => e = .returned (.bool true) ∧ Below w.heap.size w w' := by
  have hm : l.length ≤ 9223372036854775807 := by omega
  have hnil : ∀ (p : Nat) (W : World), (binOp BinOp.eql 28 (.pointer (some ⟨p, 0, none⟩)) (.pointer none)).run Try.prog W = .ok (.bool false) W := fun _ _ => by kernel_rfl
  have HR0 := Aside0.mk hr0
  have HC0 := Aside0.mk hc0
  have LM := Aside0.mk hl
  obtain ⟨k1, n1⟩ := Ev.rounds (g := fun k => serifref02_Num.f k l at_ 1) (num_ev l at_ 1 hm hb (by decide))
  obtain ⟨k2, n2⟩ := Ev.rounds (g := fun k => serifref02_Num.f k l at_ 2) (num_ev l at_ 2 hm hb (by decide))
  obtain ⟨k3, n3⟩ := Ev.rounds (g := fun k => serifref02_Num.f k l at_ 3) (num_ev l at_ 3 hm hb (by decide))
  obtain ⟨k4, n4⟩ := Ev.rounds (g := fun k => serifref02_Num.f k l at_ 4) (num_ev l at_ 4 hm hb (by decide))
  have U1 : Aside0 (∀ p A c W, View W p A c l → Calls Try.prog 25 #[.pointer (some ⟨p, 0, none⟩), .int .i64 at_] W fun e w' => e = .returned (.tuple #[.int .i64 (numL (partL l at_ 1) 0), .int .i64 (partE l at_ 1)]) ∧ w' = W) := ⟨fun p A c W h => peek_U8.calls p A c l at_ W h hb⟩
  have U2 : Aside0 (∀ p A c W, View W p A c l → Calls Try.prog 26 #[.pointer (some ⟨p, 0, none⟩), .int .i64 at_] W fun e w' => e = .returned (.tuple #[.int .i64 (numL (partL l at_ 2) 0), .int .i64 (partE l at_ 2)]) ∧ w' = W) := ⟨fun p A c W h => peek_U16.calls p A c l at_ W h hb⟩
  have U3 : Aside0 (∀ p A c W, View W p A c l → Calls Try.prog 27 #[.pointer (some ⟨p, 0, none⟩), .int .i64 at_] W fun e w' => e = .returned (.tuple #[.int .i64 (numL (partL l at_ 3) 0), .int .i64 (partE l at_ 3)]) ∧ w' = W) := ⟨fun p A c W h => peek_U24.calls p A c l at_ W h hb⟩
  have U4 : Aside0 (∀ p A c W, View W p A c l → Calls Try.prog 28 #[.pointer (some ⟨p, 0, none⟩), .int .i64 at_] W fun e w' => e = .returned (.tuple #[.int .i64 (numL (partL l at_ 4) 0), .int .i64 (partE l at_ 4)]) ∧ w' = W) := ⟨fun p A c W h => peek_U32.calls p A c l at_ W h hb⟩
  have T4 : Aside0 (∀ p A c W, View W p A c l → Calls Try.prog 30 #[.pointer (some ⟨p, 0, none⟩), .int .i64 at_] W fun e w' => e = .returned (.tuple #[.string (strOfNums (partL l at_ 4)), .int .i64 (partE l at_ 4)]) ∧ w' = W) := ⟨fun p A c W h => peek_Tag.calls p A c l at_ W h⟩
  have S2 : Aside0 (∀ p A c W, View W p A c l → Calls Try.prog 29 #[.pointer (some ⟨p, 0, none⟩), .int .i64 at_] W fun e w' => e = .returned (.tuple #[.int .i64 (wrap64 (IntKind.i16.wrap (numL (partL l at_ 2) 0))), .int .i64 (partE l at_ 2)]) ∧ w' = W) := ⟨fun p A c W h => peek_I16.calls p A c l at_ W h hb⟩
  obtain ⟨ki, ni⟩ := Ev.rounds (g := fun k => serifref02_I16.f k l at_) (i16_ev l at_ hm hb)
  have RT : Aside0 (∀ W, Kd.C (Kd.int .u8) W A0 l.length l → Calls Try.prog 33 #[.slice A0 l.length c0, .int .i64 at_] W fun e w' => e = .returned (.string (strOfNums (partL l at_ 4))) ∧ Drawn0 W w') := ⟨fun W h => ref_Tag.calls A0 c0 l at_ W h hc0⟩
  have H2 : ∃ b2, Aside0 (serifref02_Has.f l at_ 2 = some b2) ∧ ((b2 = true ∧ partE l at_ 2 = 0) ∨ (b2 = false ∧ partE l at_ 2 = 21)) := by
    by_cases h : partOk l at_ 2
    · exact ⟨true, ⟨by rw [has_f l at_ 2 hm, decide_eq_true h]⟩, .inl ⟨rfl, by unfold partE; rw [if_pos h]⟩⟩
    · exact ⟨false, ⟨by rw [has_f l at_ 2 hm, decide_eq_false h]⟩, .inr ⟨rfl, by unfold partE; rw [if_neg h]⟩⟩
  have H4 : ∃ b4, Aside0 (serifref02_Has.f l at_ 4 = some b4) ∧ ((b4 = true ∧ partE l at_ 4 = 0) ∨ (b4 = false ∧ partE l at_ 4 = 21)) := by
    by_cases h : partOk l at_ 4
    · exact ⟨true, ⟨by rw [has_f l at_ 4 hm, decide_eq_true h]⟩, .inl ⟨rfl, by unfold partE; rw [if_pos h]⟩⟩
    · exact ⟨false, ⟨by rw [has_f l at_ 4 hm, decide_eq_false h]⟩, .inr ⟨rfl, by unfold partE; rw [if_neg h]⟩⟩
  generalize wrap64 (IntKind.i16.wrap (numL (partL l at_ 2) 0)) = xs at *
  generalize numL (partL l at_ 1) 0 = x1 at *
  generalize numL (partL l at_ 2) 0 = x2 at *
  generalize numL (partL l at_ 3) 0 = x3 at *
  generalize numL (partL l at_ 4) 0 = x4 at *
  generalize strOfNums (partL l at_ 4) = st at *
  generalize partE l at_ 1 = e1 at *
  generalize partE l at_ 2 = e2 at *
  generalize partE l at_ 3 = e3 at *
  generalize partE l at_ 4 = e4 at *
  have N1 := Aside0.mk n1
  have N2 := Aside0.mk n2
  have N3 := Aside0.mk n3
  have N4 := Aside0.mk n4
  have NI := Aside0.mk ni
  obtain ⟨b2, F2, H2⟩ := H2
  obtain ⟨b4, F4, H4⟩ := H4
  have HH2 := Aside0.mk H2
  have HH4 := Aside0.mk H4
  clear n1 n2 n3 n4 ni H2 H4 hr0 hc0 hl hb
  have HN := Aside0.mk (fun A0 c0 W hr hc => peek_New.calls A0 c0 l W hr hc LM.out)
  have HLn := Aside0.mk (fun p A c W h => peek_Len.calls p A c l W h)
  have HBy := Aside0.mk (fun p A c W h => peek_Bytes.calls p A c l W h LM.out)
  have HSm : serifref02_Same.f l l = some true := by unfold serifref02_Same.f; rw [beq_self_eq_true]
  have SM := Aside0.mk HSm
  clear HSm
  have LMA : Aside0 (([] : List Int).length + l.length < 140737488355328) := ⟨by simpa using LM.out⟩
  have HB := Aside0.mk (Below.refl w.heap.size w)
  go_enter Try.func4, Try.ntmps4
  go_wp2_with (first | (go_at_call 19; (with_reducible refine (alive.calls _).mono ?_); rintro e w1 ⟨rfl, hb⟩; have HBn := Aside0.mk (below_step HB.out hb); clear HB hb; have HB := HBn; clear HBn) | ((with_reducible refine gate_dst (N := 19) rfl ?_); refine Kd.R_lit (Kd.int .u8) _ 5 ?hg (N := 19) ?hd (xs := ([] : List Int)) (inner := []) (ok := fun _ => True) (okp := fun _ => True) ?hr ?hp (fun _ hk => hk) trivial (Below.refl _ _) (Nat.le_refl _) (by simp) ?_; (case hd => rfl); (case hg => rfl); (case hr => first | (go_simp; done) | (go_simp; rfl)); (case hp => exact (Reps.none _ _)); intro v2 w2 ho2 hb2 hg_ hnew_; clear hg_ hnew_; have HO := Aside0.mk (Kd.R_lower ho2 (below_size HB.out)); have HBn := Aside0.mk (below_step HB.out hb2); clear HB ho2 hb2; have HB := HBn; clear HBn) | ((with_reducible refine gate_builtin (b := .append) (xs := #[.tmp 19, .tmp 20]) rfl ?_); at_builtin; refine Kd.R_append_rows (Kd.int .u8) (w0 := w) w.heap.size rfl (.tmp 19) (.tmp 20) 22 5 (.int .u8 0) 1 rfl Try.underlying22 infoU8 rfl (by decide) (by omega) v2 ([] : List Int) l _ _ _ (fun _ => True) (fun _ => False) rfl rfl HO.out (Kd.C_below HR0.out HB.out) (fun _ _ h => h) (fun _ h => h.elim) (fun _ _ => trivial) HB.out (below_size HB.out) (by have := LMA.out; omega) ?_; intro v3 w3 ho hb hg hat; obtain ⟨A3, c3, ev3⟩ := Kd.R_slice ho; subst ev3; have HO3 := Aside0.mk ho; have HBn := Aside0.mk hb; clear HB HO ho hb hg hat; have HB := HBn; clear HBn) | (go_at_call 20; (refine (HN.out A3 c3 _ (Kd.R_reads' HO3.out).2.2 (Kd.R_reads' HO3.out).2.1).mono ?_); rintro e w4 ⟨p, A, c, rfl, hp1, hp2, hblk, hrow, hbel⟩; have HV := Aside0.mk (View.mk hblk (Kd.R_reads' hrow).2.2 (Kd.R_reads' hrow).2.1); have HBn := Aside0.mk (below_step HB.out hbel); clear hblk hrow hbel HB HO3 hp1 hp2; have HB := HBn; clear HBn) | (go_at_call 21; (with_reducible refine (HLn.out p A c _ HV.out).mono ?_); rintro e w' ⟨rfl, rfl⟩) | (go_at_call 23; (with_reducible refine (HBy.out p A c _ HV.out).mono ?_); rintro e w5 ⟨v5, rfl, ho5, hb5⟩; obtain ⟨A5, c5, ev5⟩ := Kd.R_slice ho5; subst ev5; have HO5 := Aside0.mk ho5; have HVn := Aside0.mk (HV.out.below hb5); have HBn := Aside0.mk (below_step HB.out hb5); clear HV HB ho5 hb5; have HV := HVn; have HB := HBn; clear HVn HBn) | (go_at_call 22; (with_reducible refine (serifref02_Same.calls A5 c5 l A0 c0 l true _ (Kd.R_reads' HO5.out).2.2 (Kd.R_reads' HO5.out).2.1 (Kd.C_below HR0.out HB.out) HC0.out SM.out).mono ?_); rintro e w' ⟨rfl, ⟨nd, rfl⟩⟩; have HVn := Aside0.mk (HV.out.below (pw_below_drewN (Below.refl _ _) nd)); have HBn := Aside0.mk (pw_below_drewN HB.out nd); clear HV HB; generalize World.drewN _ nd = wz at HVn HBn ⊢; have HV := HVn; have HB := HBn; clear HVn HBn))
  clear HN HLn HBy SM LMA HO5
  go_loopw [6] (fun s wr => ∃ n : Int, s = .int .i64 n ∧ Aside0 (1 ≤ n ∧ n ≤ 5) ∧ Aside0 (View wr p A c l) ∧ Aside0 (Below w.heap.size w wr)) (fun s _ => (5 - intOf s).toNat)
  case atStart => exact ⟨1, rfl, ⟨by decide⟩, HV, HB⟩
  case round =>
    clear HV HB
    obtain ⟨n, rfl, HNn, HV, HB⟩ := hrel
    by_cases hle : n ≤ 4
    · have hn4 : n = 1 ∨ n = 2 ∨ n = 3 ∨ n = 4 := by have := HNn.out; omega
      clear hle HNn
      rcases hn4 with rfl | rfl | rfl | rfl
      all_goals
        go_wp2_with (first | (go_at_call 24; (with_reducible refine (serifref02_Num.calls k1 A0 c0 l at_ 1 x1 e1 _ (Kd.C_below HR0.out HB.out) HC0.out N1.out).mono ?_); rintro e w' ⟨rfl, ⟨nd, rfl⟩⟩; have HVn := Aside0.mk (HV.out.below (pw_below_drewN (Below.refl _ _) nd)); have HBn := Aside0.mk (pw_below_drewN HB.out nd); clear HV HB; generalize World.drewN _ nd = wz at HVn HBn ⊢; have HV := HVn; have HB := HBn; clear HVn HBn) | (go_at_call 24; (with_reducible refine (serifref02_Num.calls k2 A0 c0 l at_ 2 x2 e2 _ (Kd.C_below HR0.out HB.out) HC0.out N2.out).mono ?_); rintro e w' ⟨rfl, ⟨nd, rfl⟩⟩; have HVn := Aside0.mk (HV.out.below (pw_below_drewN (Below.refl _ _) nd)); have HBn := Aside0.mk (pw_below_drewN HB.out nd); clear HV HB; generalize World.drewN _ nd = wz at HVn HBn ⊢; have HV := HVn; have HB := HBn; clear HVn HBn) | (go_at_call 24; (with_reducible refine (serifref02_Num.calls k3 A0 c0 l at_ 3 x3 e3 _ (Kd.C_below HR0.out HB.out) HC0.out N3.out).mono ?_); rintro e w' ⟨rfl, ⟨nd, rfl⟩⟩; have HVn := Aside0.mk (HV.out.below (pw_below_drewN (Below.refl _ _) nd)); have HBn := Aside0.mk (pw_below_drewN HB.out nd); clear HV HB; generalize World.drewN _ nd = wz at HVn HBn ⊢; have HV := HVn; have HB := HBn; clear HVn HBn) | (go_at_call 24; (with_reducible refine (serifref02_Num.calls k4 A0 c0 l at_ 4 x4 e4 _ (Kd.C_below HR0.out HB.out) HC0.out N4.out).mono ?_); rintro e w' ⟨rfl, ⟨nd, rfl⟩⟩; have HVn := Aside0.mk (HV.out.below (pw_below_drewN (Below.refl _ _) nd)); have HBn := Aside0.mk (pw_below_drewN HB.out nd); clear HV HB; generalize World.drewN _ nd = wz at HVn HBn ⊢; have HV := HVn; have HB := HBn; clear HVn HBn) | (go_at_call 25; (with_reducible refine (U1.out p A c _ HV.out).mono ?_); rintro e w' ⟨rfl, rfl⟩) | (go_at_call 26; (with_reducible refine (U2.out p A c _ HV.out).mono ?_); rintro e w' ⟨rfl, rfl⟩) | (go_at_call 27; (with_reducible refine (U3.out p A c _ HV.out).mono ?_); rintro e w' ⟨rfl, rfl⟩) | (go_at_call 28; (with_reducible refine (U4.out p A c _ HV.out).mono ?_); rintro e w' ⟨rfl, rfl⟩))
        refine ⟨⟨_, rfl, ⟨by decide⟩, HV, HB⟩, by decide⟩
    · have hleb : decide (n ≤ 4) = false := decide_eq_false hle
      rcases HH2.out with ⟨rfl, rfl⟩ | ⟨rfl, rfl⟩
      all_goals rcases HH4.out with ⟨rfl, rfl⟩ | ⟨rfl, rfl⟩
      all_goals
        go_wp2_with (first | (go_at_call 29; (with_reducible refine (S2.out p A c _ HV.out).mono ?_); rintro e w' ⟨rfl, rfl⟩) | (go_at_call 30; (with_reducible refine (T4.out p A c _ HV.out).mono ?_); rintro e w' ⟨rfl, rfl⟩) | (go_at_call 31; (with_reducible refine (serifref02_I16.calls ki A0 c0 l at_ xs _ (Kd.C_below HR0.out HB.out) HC0.out NI.out).mono ?_); rintro e w' ⟨rfl, ⟨nd, rfl⟩⟩; have HVn := Aside0.mk (HV.out.below (pw_below_drewN (Below.refl _ _) nd)); have HBn := Aside0.mk (pw_below_drewN HB.out nd); clear HV HB; generalize World.drewN _ nd = wz at HVn HBn ⊢; have HV := HVn; have HB := HBn; clear HVn HBn) | (go_at_call 32; (with_reducible refine (serifref02_Has.calls A0 c0 l at_ 2 _ _ (Kd.C_below HR0.out HB.out) HC0.out F2.out).mono ?_); rintro e w' ⟨rfl, ⟨nd, rfl⟩⟩; have HVn := Aside0.mk (HV.out.below (pw_below_drewN (Below.refl _ _) nd)); have HBn := Aside0.mk (pw_below_drewN HB.out nd); clear HV HB; generalize World.drewN _ nd = wz at HVn HBn ⊢; have HV := HVn; have HB := HBn; clear HVn HBn) | (go_at_call 32; (with_reducible refine (serifref02_Has.calls A0 c0 l at_ 4 _ _ (Kd.C_below HR0.out HB.out) HC0.out F4.out).mono ?_); rintro e w' ⟨rfl, ⟨nd, rfl⟩⟩; have HVn := Aside0.mk (HV.out.below (pw_below_drewN (Below.refl _ _) nd)); have HBn := Aside0.mk (pw_below_drewN HB.out nd); clear HV HB; generalize World.drewN _ nd = wz at HVn HBn ⊢; have HV := HVn; have HB := HBn; clear HVn HBn) | (go_at_call 33; (with_reducible refine (RT.out _ (Kd.C_below HR0.out HB.out)).mono ?_); rintro e w' ⟨rfl, ⟨nd, rfl⟩⟩; have HVn := Aside0.mk (HV.out.below (pw_below_drewN (Below.refl _ _) nd)); have HBn := Aside0.mk (pw_below_drewN HB.out nd); clear HV HB; generalize World.drewN _ nd = wz at HVn HBn ⊢; have HV := HVn; have HB := HBn; clear HVn HBn))
        go_ret
        exact ⟨rfl, HB.out⟩
end Go.Proofs.Ytplnaannfnhhgaa.K
