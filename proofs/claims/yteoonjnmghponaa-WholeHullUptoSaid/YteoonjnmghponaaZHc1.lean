/- Package path: contour, walked: the polygon lies in every box that holds the knots. -/
import Derived.Test.YteoonjnmghponaaZHbb
import Derived.Deep.RegionLaw
namespace Go.Proofs.Yteoonjnmghponaa.H
open Go.RowKit Go.Sort Go.Proofs.Yteoonjnmghponaa.F Go.Proofs.YteoonjnmghponaaW.PrintWords Go.Proofs.YteoonjnmghponaaW.PrintLast Go.Proofs.YteoonjnmghponaaW.PrintMore
set_option linter.unusedVariables false
set_option linter.unusedSimpArgs false
/-- What contour leaves: a polygon in the box, or nothing. -/
def Cont (B : Bx) (w0 w : World) (u : Value) (l0 : List S70) (e : Ending) (w' : World) : Prop := ∃ (v : Value) (ok : Bool) (l : List S30), e = .returned (.tuple #[v, .bool ok]) ∧ Kd.R k30 30 w' w.heap.size (fun _ => True) v l ∧ (∀ s ∈ l, InS B s.f0 s.f1) ∧ l.length ≤ 70000 ∧ Kept w w' (fun k => some k = u.ownBlock) ∧ Below w0.heap.size w0 w' ∧ (ok = true → l0 ≠ [] → l ≠ [])
theorem cont_none {B : Bx} {w0 w w' : World} {u : Value} {l0 : List S70} {ok : Bool} (h : Kept w w' (fun k => some k = u.ownBlock)) (hb : Below w0.heap.size w0 w') (h0 : ok = false ∨ l0 = []) : Cont B w0 w u l0 (.returned (.tuple #[.slice none 0 0, .bool ok])) w' :=
  ⟨_, ok, [], rfl, Kd.R_nil _ _ _ _ _, by simp, by simp, h, hb, fun h1 h2 => (h0.elim (fun e => by rw [e] at h1; cases h1) (fun e => absurd e h2))⟩
theorem keptPn {w w1 W : World} {P : Nat → Prop} {p N : Nat} {B : Bx} {v : Value} {l : List S30} {x y : Int} (hk : Kept w w1 P) (h : Pn w1 p B N v l x y W) : Kept w W P :=
  ⟨Nat.le_trans hk.1 h.be.size, fun i hi hn => (h.be.block i (Nat.lt_of_lt_of_le hi hk.1)).trans (hk.2 i hi hn)⟩
set_option maxHeartbeats 8000000 in
set_option maxRecDepth 100000 in
theorem contour_any {B : Bx} {w0 w : World} {u : Value} {l0 : List S70} (hB : B.Ok) (hb : Below w0.heap.size w0 w) (ho : Kd.R k70 70 w w0.heap.size (fun k => some k = u.ownBlock) u l0) (hn : l0.length ≤ 4096) (hk : ∀ s ∈ l0, InK B s) :
    Calls Try.prog 21 #[u] w (Cont B w0 w u l0) := by
  obtain ⟨A0, c0, rfl⟩ := Kd.R_slice ho
  have HB := Aside0.mk hB
  have HO := Aside0.mk ho
  have HBw := Aside0.mk hb
  rcases Nat.eq_zero_or_pos l0.length with h0 | h0
  · have hz : ((l0.length : Int) == 0) = true := by rw [h0]; rfl
    have hnil : l0 = [] := List.length_eq_zero_iff.1 h0
    clear ho hb hB hk
    rw [h0] at *
    go_enter Try.func21, Try.ntmps21
    go_wp2
    go_ret2
    exact cont_none (Kept.refl _ _) HBw.out (.inr (by first | rfl | exact hnil))
  · obtain ⟨kr, x, y, rs, ok, hr, hxy, hsub, hlen⟩ := round_ok hB h0 hn hk
    have hz : ((l0.length : Int) == 0) = false := by rw [beq_eq_false_iff_ne]; omega
    have HR := Aside0.mk hr
    have HXY := Aside0.mk hxy
    have HRS : Aside0 (∀ s ∈ rs, InK B s) := ⟨fun s hs => hk s (hsub s hs)⟩
    have hrl : rs.length ≤ 4096 := Nat.le_trans hlen hn
    clear ho hb hB hk hr hxy hsub hlen
    go_enter Try.func21, Try.ntmps21
    go_upto_region 4 with (go_at_call 48; ((with_reducible refine Calls.mono (path_round.calls kr (fun k => some k = (Value.slice A0 l0.length c0).ownBlock) _ l0 x y rs ok w0 _ HBw.out HO.out HR.out) ?_); rintro e w1 ⟨v2, rfl, ho1, hb1, hk1⟩; obtain ⟨A2, c2, rfl⟩ := Kd.R_slice ho1; have HO1 := Aside0.mk ho1; have HB1 := Aside0.mk hb1; have HK1 := Aside0.mk hk1; clear ho1 hb1 hk1))
    cases ok
    · go_wp2
      go_ret2
      exact cont_none ((HK1.out.alloc _).alloc _) (below_alloc (below_alloc HB1.out _) _) (.inl rfl)
    · go_upto_region 7 with fail
      obtain ⟨W4, hW4⟩ : ∃ X, X = ((w1.alloc (.cells #[.int .i64 x, .int .i64 y] 30)).alloc (.cells #[.slice A2 rs.length c2] 65)).alloc (.cells #[.slice none 0 0, .int .i64 0, .int .i64 0] 100) := ⟨_, rfl⟩
      have b4 : W4.heap[w1.heap.size]? = some (.cells #[.int .i64 x, .int .i64 y] 30 (0, 0)) := by
        rw [hW4]
        exact blk_alloc (blk_alloc (blk_new w1 _) _) _
      have b5 : W4.heap[w1.heap.size + 1]? = some (.cells #[.slice A2 rs.length c2] 65 (0, 0)) := by
        rw [hW4]
        have := blk_alloc (blk_new (w1.alloc (.cells #[.int .i64 x, .int .i64 y] 30)) (.cells #[.slice A2 rs.length c2] 65)) (.cells #[.slice none 0 0, .int .i64 0, .int .i64 0] 100)
        rw [World.size_alloc] at this
        exact this
      have b7 : W4.heap[w1.heap.size + 1 + 1]? = some (.cells #[.slice none 0 0, .int .i64 0, .int .i64 0] 100 (0, 0)) := by
        rw [hW4]
        have := blk_new ((w1.alloc (.cells #[.int .i64 x, .int .i64 y] 30)).alloc (.cells #[.slice A2 rs.length c2] 65)) (.cells #[.slice none 0 0, .int .i64 0, .int .i64 0] 100)
        rw [World.size_alloc, World.size_alloc] at this
        exact this
      have hb4 : Below w1.heap.size w1 W4 := by
        rw [hW4]
        exact below_alloc (below_alloc (below_alloc (Below.refl _ _) _) _) _
      have HPn : Aside0 (Pn w1 (w1.heap.size + 1 + 1) B 0 (.slice none 0 0) [] 0 0 W4) := ⟨⟨b7, Kd.R_nil _ _ _ _ _, by simp, fun h => absurd rfl h, by simp, hb4, by omega, fun h => absurd rfl h⟩⟩
      have F4 : Aside0 (Fr (w1.heap.size + 1 + 1) (.slice none 0 0) W4 w1.heap.size _ _) := ⟨⟨b4, by omega, by simp [Value.ownBlock]⟩⟩
      have F5 : Aside0 (Fr (w1.heap.size + 1 + 1) (.slice none 0 0) W4 (w1.heap.size + 1) _ _) := ⟨⟨b5, by omega, by simp [Value.ownBlock]⟩⟩
      have HRf : Aside0 (Rf w0 (w1.heap.size + 1 + 1) (.slice none 0 0) W4 (.slice A2 rs.length c2) rs) := ⟨⟨Kd.R_below (Kd.R_mono (Kd.R_bound HO1.out) (fun k hk => ⟨by have := hk.2.2; omega, by simp [Value.ownBlock]⟩)) hb4⟩⟩
      have k4x : W4.cell? ⟨w1.heap.size, 0, none⟩ = some (.int .i64 x) := (blk_cell b4 0).trans rfl
      have k4y : W4.cell? ⟨w1.heap.size, 1, none⟩ = some (.int .i64 y) := (blk_cell b4 1).trans rfl
      rw [← hW4]
      clear hW4 b4 b5 b7 hb4 HO1
      generalize w1.heap.size + 1 + 1 = p at *
      generalize w1.heap.size + 1 = g5 at *
      obtain ⟨g4, hg4⟩ : ∃ g, g = w1.heap.size := ⟨_, rfl⟩
      rw [← hg4] at F4 k4x k4y ⊢
      clear hg4
      go_wp2_with (go_at_call 49; ((with_reducible refine Calls.mono (line_any HPn.out HXY.out (by omega)) ?_); rintro e w5 ⟨rfl, v2, l2, hp5, hl5⟩; have HP5 := Aside0.mk hp5; have F45 := Aside0.mk (F4.out.step hl5); have F55 := Aside0.mk (F5.out.step hl5); have HRf5 := Aside0.mk (HRf.out.step hl5); clear hp5 hl5 HPn F4 F5 HRf k4x k4y))
      go_loopg [9, 10, 11, 12, 13] (rs.length + 1) (fun kx s9 s10 s11 s12 s13 wr => ∃ (cl : Bool) (i : Nat) (v' : Value) (l' : List S30) (x' y' : Int), s9 = .bool cl ∧ s10 = .int .i64 i ∧ i ≤ rs.length + 1 ∧ rs.length + 1 - i ≤ kx ∧ Aside0 (Pn w1 p B (1 + 16 * i) v' l' x' y' wr) ∧ Aside0 (Fr p v' wr g4 #[.int .i64 x, .int .i64 y] 30) ∧ Aside0 (Fr p v' wr g5 #[.slice A2 rs.length c2] 65) ∧ Aside0 (Rf w0 p v' wr (.slice A2 rs.length c2) rs))
      case atStart => exact ⟨false, 0, v2, l2, x, y, rfl, rfl, by omega, by omega, ⟨HP5.out.mono (by omega) (by omega)⟩, F45, F55, HRf5⟩
      case round =>
        clear HP5 F45 F55 HRf5
        obtain ⟨cl, i, v1, l1, x1, y1, rfl, rfl, hir, hkx, HP, F4, F5, HRf⟩ := hrel
        have k5 : wr.cell? ⟨g5, 0, none⟩ = some (.slice A2 rs.length c2) := (blk_cell F5.out.blk 0).trans rfl
        by_cases hlt : i < rs.length
        · have hltz : (i : Int) < (rs.length : Int) := by omega
          have HCr := Aside0.mk (Kd.R_reads' HRf.out.row).2.2
          obtain ⟨ad, e, q0, q1, q2⟩ := at_T70 HCr.out i (by omega) (by omega)
          subst e
          simp only [Int.toNat_natCast] at q0 q1 q2
          have HKn := Aside0.mk (HRS.out _ (rd_mem (l := rs) (i := i) (by omega) (by omega)))
          generalize hkn : rd_T70 rs i = kn at q0 q1 q2 HKn
          clear hkn
          obtain ⟨a0, a1, a2⟩ := kn
          dsimp only at q0 q1 q2
          go_upto_region 13 with fail
          have hbk : Below wr.heap.size wr (wr.alloc (.cells #[.int .i64 a0, .int .i64 a1, .int .i64 a2] 70)) := below_alloc (Below.refl _ _) _
          have B11 := Aside0.mk (blk_new wr (.cells #[.int .i64 a0, .int .i64 a1, .int .i64 a2] 70))
          have LLk := Ln.below (p := p) v1 hbk
          have HPk := Aside0.mk (HP.out.below hbk)
          have F4k := Aside0.mk (F4.out.step LLk)
          have F5k := Aside0.mk (F5.out.step LLk)
          have HRfk := Aside0.mk (HRf.out.step LLk)
          clear LLk
          have HCk := Aside0.mk (Kd.C_below HCr.out hbk)
          clear hbk k5 q0 q1 q2 HP F4 F5 HRf HCr
          generalize wr.alloc (.cells #[.int .i64 a0, .int .i64 a1, .int .i64 a2] 70) = wk at *
          generalize wr.heap.size = g11 at *
          have k5 : wk.cell? ⟨g5, 0, none⟩ = some (.slice (some ad) rs.length c2) := (blk_cell F5k.out.blk 0).trans rfl
          have s0 : wk.cell? ⟨g11, 0, none⟩ = some (.int .i64 a0) := (blk_cell B11.out 0).trans rfl
          have s1 : wk.cell? ⟨g11, 1, none⟩ = some (.int .i64 a1) := (blk_cell B11.out 1).trans rfl
          have s2 : wk.cell? ⟨g11, 2, none⟩ = some (.int .i64 a2) := (blk_cell B11.out 2).trans rfl
          obtain ⟨m1, hm1⟩ : ∃ m, m = kd rs ((i : Int) + 1) := ⟨_, rfl⟩
          obtain ⟨m2, hm2⟩ : ∃ m, m = kd rs ((i : Int) + 2) := ⟨_, rfl⟩
          have K1 : Aside0 (Calls Try.prog 50 #[.int .i64 ((i : Int) + 1), .pointer (some ⟨g5, 0, none⟩)] wk fun e w' => e = .returned (.int .i64 m1) ∧ wk = w') := ⟨by rw [hm1]; exact (kind_any k5 HCk.out (by omega) (by omega) hrl).mono (fun e w' h => ⟨h.1, h.2.symm⟩)⟩
          have K2 : Aside0 (Calls Try.prog 50 #[.int .i64 ((i : Int) + 2), .pointer (some ⟨g5, 0, none⟩)] wk fun e w' => e = .returned (.int .i64 m2) ∧ wk = w') := ⟨by rw [hm2]; exact (kind_any k5 HCk.out (by omega) (by omega) hrl).mono (fun e w' h => ⟨h.1, h.2.symm⟩)⟩
          have K1b : Aside0 (Calls Try.prog 50 #[.int .i64 ((i : Int) + 2 - 1), .pointer (some ⟨g5, 0, none⟩)] wk fun e w' => e = .returned (.int .i64 m1) ∧ wk = w') := ⟨by rw [show (i : Int) + 2 - 1 = (i : Int) + 1 by omega]; exact K1.out⟩
          have K2b : Aside0 (Calls Try.prog 50 #[.int .i64 ((i : Int) + 3 - 1), .pointer (some ⟨g5, 0, none⟩)] wk fun e w' => e = .returned (.int .i64 m2) ∧ wk = w') := ⟨by rw [show (i : Int) + 3 - 1 = (i : Int) + 2 by omega]; exact K2.out⟩
          have hin1 : m1 ≠ 0 → (i : Int) + 1 < rs.length := fun h => by
            by_cases c : (i : Int) + 1 < rs.length
            · exact c
            · exact absurd (by rw [hm1]; unfold kd; rw [if_neg c]) h
          clear hm1 hm2
          have hN1 : 1 + 16 * i ≤ 8000000000000 := by omega
          have hN7 : 1 + 16 * i ≤ 7000000000000 := by omega
          have hN0 : 0 < 1 + 16 * i := by omega
          have hkd : InS B a0 a1 ∧ 1 ≤ a2 ∧ a2 ≤ 3 := HKn.out
          have HIk := Aside0.mk hkd.1
          replace hkd := hkd.2
          rcases (show a2 = 1 ∨ a2 = 2 ∨ a2 = 3 by omega) with rfl | rfl | rfl
          · clear hin1
            go_wp2_with (first | (go_at_call 51; ((with_reducible refine Calls.mono (path_spot.calls a0 a1 _ a0 a1 _ rfl) ?_); rintro e w6 ⟨rfl, hb6⟩; have HB6 := Aside0.mk hb6; clear hb6)) | (go_at_call 49; ((with_reducible refine Calls.mono (line_any (HPk.out.below HB6.out) HIk.out hN1) ?_); rintro e w7 ⟨rfl, v3, l3, hp9, hl9⟩; have hll := (Ln.below (p := p) v1 HB6.out).trans hl9; have HPz := Aside0.mk hp9; have F4z := Aside0.mk (F4k.out.step hll); have F5z := Aside0.mk (F5k.out.step hll); have HRfz := Aside0.mk (HRfk.out.step hll); clear hp9 hl9 hll)))
            obtain ⟨x3, hx3⟩ : ∃ z, z = a0 := ⟨_, rfl⟩
            obtain ⟨y3, hy3⟩ : ∃ z, z = a1 := ⟨_, rfl⟩
            rw [← hx3, ← hy3] at HPz
            go_roundg (rs.length + 1 - (i + 1))
            case measure => omega
            case rel => exact ⟨cl, i + 1, v3, l3, x3, y3, by first | rfl | go_num | (simp; done), by first | rfl | go_num | (congr 1; omega), by omega, by omega, ⟨HPz.out.mono (by omega) (by omega)⟩, F4z, F5z, HRfz⟩
          · skip
            have B11q := B11
            by_cases c1 : m1 = 2
            · subst c1
              have hin := hin1 (by decide)
              clear hin1
              go_upto_region 17 with (first | (go_at_call 50; (with_reducible refine Calls.mono K1.out ?_); rintro e w_ ⟨rfl, rfl⟩))
              obtain ⟨adf, ef, w0_, w1_, w2_⟩ := at_T70 HCk.out ((i : Int) + 1) (by omega) hin
              cases ef
              have HKf := Aside0.mk (HRS.out _ (rd_mem (l := rs) (i := (i : Int) + 1) (by omega) hin))
              generalize rd_T70 rs ((i : Int) + 1) = kf at w0_ w1_ w2_ HKf
              obtain ⟨f0, f1, f2⟩ := kf
              dsimp only at w0_ w1_ w2_
              rw [show ((i : Int) + 1).toNat = i + 1 by omega] at w0_ w1_ w2_
              obtain ⟨mp, mq, hmid, hmin⟩ := middle_ok (c := 2) (z := f2) HB.out HIk.out (show InS B f0 f1 ∧ _ from HKf.out).1
              have HMi := Aside0.mk hmin
              have ea1 : ((i : Int) + 1).toNat = i + 1 := by omega
              have pa1 : (0 : Int) ≤ (i : Int) + 1 := by omega
              have ra1 : IntKind.i64.wrap ((i : Int) + 1) = (i : Int) + 1 := IntWalk.i64_in _ (by omega)
              have rr0 := fun d os => cell_regrown w0_ d os
              have rr1 := fun d os => cell_regrown w1_ d os
              have rr2 := fun d os => cell_regrown w2_ d os
              have rg5 := fun d os => cell_regrown k5 d os
              have rg110 := fun d os => cell_regrown (w := wk) (a := ⟨g11, 0, none⟩) (v := .int .i64 a0) ((blk_cell B11.out 0).trans rfl) d os
              have rg111 := fun d os => cell_regrown (w := wk) (a := ⟨g11, 1, none⟩) (v := .int .i64 a1) ((blk_cell B11.out 1).trans rfl) d os
              have rg112 := fun d os => cell_regrown (w := wk) (a := ⟨g11, 2, none⟩) (v := .int .i64 2) ((blk_cell B11.out 2).trans rfl) d os
              have CS1 := Aside0.mk (fun d os => Calls.regrown_of (path_spot.calls a0 a1 2 a0 a1 (grow (redrawn wk d) os) rfl))
              have CM := Aside0.mk (fun d os => Calls.regrown_of (path_middle.calls 3 a0 a1 2 f0 f1 f2 mp mq (grow (redrawn wk d) os) hmid))
              clear w0_ w1_ w2_ hmid hmin k5 s0 s1 s2 K1 K2 K1b K2b
              refine wp_region_below_tail 10 (by kernel_rfl) (by kernel_rfl) ?_
              simp only [List.take_succ_cons, List.take_zero, List.drop_succ_cons, List.drop_zero]
              repeat (quiet_step ((first | (go_at_call 51; with_reducible exact CS1.out _ _) | (go_at_call 53; with_reducible exact CM.out _ _))))
              refine wpQuiet_nil ?_
              intro _ hw'
              obtain ⟨⟨dq, osq⟩, hw''⟩ := hw'
              subst hw''
              have hbG := below_regrown wk dq osq
              clear rr0 rr1 rr2 rg5 rg110 rg111 rg112 CS1 CM
              have LLg := Ln.below (p := p) v1 hbG
              have HPg := Aside0.mk (HPk.out.below hbG)
              have F4g := Aside0.mk (F4k.out.step LLg)
              have F5g := Aside0.mk (F5k.out.step LLg)
              have HRfg := Aside0.mk (HRfk.out.step LLg)
              clear LLg
              clear hbG
              generalize grow (redrawn wk dq) osq = wg at *
              go_wp2_with (go_at_call 52; ((with_reducible refine Calls.mono (quad_any HPg.out HIk.out HMi.out HB.out hN7 hN0) ?_); rintro e w9 ⟨rfl, v3, l3, x3, y3, hp9, hl9⟩; have HPz := Aside0.mk hp9; have F4z := Aside0.mk (F4g.out.step hl9); have F5z := Aside0.mk (F5g.out.step hl9); have HRfz := Aside0.mk (HRfg.out.step hl9); clear hp9 hl9))
              go_roundg (rs.length + 1 - (i + 1))
              case measure => omega
              case rel => exact ⟨cl, i + 1, v3, l3, x3, y3, by first | rfl | go_num | (simp; done), by first | rfl | go_num | (congr 1; omega), by omega, by omega, ⟨HPz.out.mono (by omega) (by omega)⟩, F4z, F5z, HRfz⟩
            · have b1 : (m1 == 2) = false := by rw [beq_eq_false_iff_ne]; exact c1
              by_cases hm3 : m1 = 3
              · subst hm3
                go_wp2_with (first | (go_at_call 50; (with_reducible refine Calls.mono K1.out ?_); rintro e w_ ⟨rfl, rfl⟩) | (go_at_call 50; (with_reducible refine Calls.mono K1b.out ?_); rintro e w_ ⟨rfl, rfl⟩))
                go_ret2
                exact cont_none (keptPn HK1.out HPk.out) (below_then HB1.out HB1.out.size HPk.out.be) (.inl rfl)
              · have b2 : (m1 == 3) = false := by rw [beq_eq_false_iff_ne]; exact hm3
                have hw1 : IntKind.i64.wrap ((i : Int) + 1) = (i : Int) + 1 := IntWalk.i64_in _ (by omega)
                have t4x : wk.cell? ⟨g4, 0, none⟩ = some (.int .i64 x) := (blk_cell F4k.out.blk 0).trans rfl
                have t4y : wk.cell? ⟨g4, 1, none⟩ = some (.int .i64 y) := (blk_cell F4k.out.blk 1).trans rfl
                go_upto_region 25 with (first | (go_at_call 50; (with_reducible refine Calls.mono K1.out ?_); rintro e w_ ⟨rfl, rfl⟩) | (go_at_call 50; (with_reducible refine Calls.mono K2.out ?_); rintro e w_ ⟨rfl, rfl⟩) | (go_at_call 50; (with_reducible refine Calls.mono K1b.out ?_); rintro e w_ ⟨rfl, rfl⟩) | (go_at_call 50; (with_reducible refine Calls.mono K2b.out ?_); rintro e w_ ⟨rfl, rfl⟩))
                have hb13 : Below wk.heap.size wk (wk.alloc (.cells #[.int .i64 x, .int .i64 y] 30)) := below_alloc (Below.refl _ _) _
                have B13 := Aside0.mk (blk_new wk (.cells #[.int .i64 x, .int .i64 y] 30))
                have N13 : Aside0 (wk.heap.size ≤ wk.heap.size) := ⟨Nat.le_refl _⟩
                have LLm := Ln.below (p := p) v1 hb13
                have HPm := Aside0.mk (HPk.out.below hb13)
                have F4m := Aside0.mk (F4k.out.step LLm)
                have F5m := Aside0.mk (F5k.out.step LLm)
                have HRfm := Aside0.mk (HRfk.out.step LLm)
                clear LLm
                have HCm := Aside0.mk (Kd.C_below HCk.out hb13)
                have B11m := Aside0.mk (blk_below B11.out hb13)
                have HBm := Aside0.mk hb13
                clear hb13 t4x t4y k5 s0 s1 s2 K1 K2 K1b K2b HCk B11
                generalize wk.alloc (.cells #[.int .i64 x, .int .i64 y] 30) = wm at *
                have hF5 := blk_lt F5k.out.blk
                obtain ⟨g13, hg13⟩ : ∃ g, g = wk.heap.size := ⟨_, rfl⟩
                rw [← hg13] at B13 ⊢
                have G13 : Aside0 (g13 ≠ p ∧ some g13 ≠ v1.ownBlock) := ⟨⟨by have := blk_lt HPk.out.blk; omega, fun e => by have := HPk.out.own_lt e; omega⟩⟩
                have G13 : Aside0 (g13 ≠ g5 ∧ g13 ≠ g11 ∧ g13 ≠ g4 ∧ g13 ≠ p ∧ some g13 ≠ v1.ownBlock ∧ w1.heap.size ≤ g13) := ⟨⟨by omega, by have := blk_lt B11q.out; omega, by have := blk_lt F4k.out.blk; omega, by have := blk_lt HPk.out.blk; omega, fun e => by have := HPk.out.own_lt e; omega, by have := HPk.out.be.size; omega⟩⟩
                have HG13 := Aside0.mk hg13
                clear hF5 hg13
                by_cases hcl : (i : Int) + 1 = rs.length
                · skip
                  have hcb : ((i : Int) + 1 == (rs.length : Int)) = true := by rw [beq_iff_eq]; exact hcl
                  have hcd : decide ((i : Int) + 1 = (rs.length : Int)) = true := decide_eq_true hcl
                  have k5m : wm.cell? ⟨g5, 0, none⟩ = some (.slice (some ad) rs.length c2) := (blk_cell F5m.out.blk 0).trans rfl
                  go_upto_region 29 with fail
                  clear k5m hcb hcd
                  have HTo : Aside0 (InS B x y) := HXY
                  obtain ⟨tx, htx⟩ : ∃ z, z = x := ⟨_, rfl⟩
                  obtain ⟨ty, hty⟩ : ∃ z, z = y := ⟨_, rfl⟩
                  have B13n := B13
                  rw [← htx, ← hty] at B13n HTo
                  obtain ⟨wn, hwn⟩ : ∃ z, z = wm := ⟨_, rfl⟩
                  rw [← hwn] at B13n HPm F4m F5m HRfm HCm B11m ⊢
                  clear hwn htx hty B13
                  have rg110 := fun d os => cell_regrown (w := wn) (a := ⟨g11, 0, none⟩) (v := .int .i64 a0) ((blk_cell B11m.out 0).trans rfl) d os
                  have rg111 := fun d os => cell_regrown (w := wn) (a := ⟨g11, 1, none⟩) (v := .int .i64 a1) ((blk_cell B11m.out 1).trans rfl) d os
                  have rg112 := fun d os => cell_regrown (w := wn) (a := ⟨g11, 2, none⟩) (v := .int .i64 2) ((blk_cell B11m.out 2).trans rfl) d os
                  have rg130 := fun d os => cell_regrown (w := wn) (a := ⟨g13, 0, none⟩) (v := .int .i64 tx) ((blk_cell B13n.out 0).trans rfl) d os
                  have rg131 := fun d os => cell_regrown (w := wn) (a := ⟨g13, 1, none⟩) (v := .int .i64 ty) ((blk_cell B13n.out 1).trans rfl) d os
                  have CS1 := Aside0.mk (fun d os => Calls.regrown_of (path_spot.calls a0 a1 2 a0 a1 (grow (redrawn wn d) os) rfl))
                  refine wp_region_below_tail 4 (by kernel_rfl) (by kernel_rfl) ?_
                  simp only [List.take_succ_cons, List.take_zero, List.drop_succ_cons, List.drop_zero]
                  repeat (quiet_step ((first | (go_at_call 51; with_reducible exact CS1.out _ _))))
                  refine wpQuiet_nil ?_
                  intro _ hw'
                  obtain ⟨⟨dq, osq⟩, hw''⟩ := hw'
                  subst hw''
                  have hbG := below_regrown wn dq osq
                  clear rg110 rg111 rg112 rg130 rg131 CS1
                  have LLg := Ln.below (p := p) v1 hbG
                  have HPg := Aside0.mk (HPm.out.below hbG)
                  have F4g := Aside0.mk (F4m.out.step LLg)
                  have F5g := Aside0.mk (F5m.out.step LLg)
                  have HRfg := Aside0.mk (HRfm.out.step LLg)
                  clear LLg
                  clear hbG
                  generalize grow (redrawn wn dq) osq = wg at *
                  go_wp2_with (go_at_call 52; ((with_reducible refine Calls.mono (quad_any HPg.out HIk.out HTo.out HB.out hN7 hN0) ?_); rintro e w9 ⟨rfl, v3, l3, x3, y3, hp9, hl9⟩; have HPz := Aside0.mk hp9; have F4z := Aside0.mk (F4g.out.step hl9); have F5z := Aside0.mk (F5g.out.step hl9); have HRfz := Aside0.mk (HRfg.out.step hl9); clear hp9 hl9))
                  go_roundg (rs.length + 1 - (i + 2))
                  case measure => omega
                  case rel => exact ⟨true, i + 2, v3, l3, x3, y3, by first | rfl | go_num | (simp; done), by first | rfl | go_num | (congr 1; omega), by omega, by omega, ⟨HPz.out.mono (by omega) (by omega)⟩, F4z, F5z, HRfz⟩
                · skip
                  have hcb : ((i : Int) + 1 == (rs.length : Int)) = false := by rw [beq_eq_false_iff_ne]; exact hcl
                  have hcd : decide ((i : Int) + 1 = (rs.length : Int)) = false := decide_eq_false hcl
                  have hin : (i : Int) + 1 < rs.length := by omega
                  have k5m : wm.cell? ⟨g5, 0, none⟩ = some (.slice (some ad) rs.length c2) := (blk_cell F5m.out.blk 0).trans rfl
                  obtain ⟨ade, ee, u0, u1, u2⟩ := at_T70 HCm.out ((i : Int) + 1) (by omega) hin
                  cases ee
                  have HKe := Aside0.mk (HRS.out _ (rd_mem (l := rs) (i := (i : Int) + 1) (by omega) hin))
                  generalize rd_T70 rs ((i : Int) + 1) = ke at u0 u1 u2 HKe
                  obtain ⟨e0, e1, e2⟩ := ke
                  dsimp only at u0 u1 u2
                  rw [show ((i : Int) + 1).toNat = i + 1 by omega] at u0 u1 u2
                  have t0 : wm.cell? ⟨g13, 0, none⟩ = some (.int .i64 x) := (blk_cell B13.out 0).trans rfl
                  go_upto_region 29 with (go_at_call 51; ((with_reducible refine Calls.mono (path_spot.calls e0 e1 _ e0 e1 _ rfl) ?_); rintro e w6 ⟨rfl, hb6⟩; have HB6 := Aside0.mk hb6; have b13 := blk_below B13.out hb6; have c130 : w6.cell? ⟨g13, 0, none⟩ = some (.int .i64 x) := (blk_cell b13 0).trans rfl; have c131 : w6.cell? ⟨g13, 1, none⟩ = some (.int .i64 y) := (blk_cell b13 1).trans rfl; have f130 := blk_frozen b13 0; have f131 := blk_frozen b13 1; have B13b := Aside0.mk b13; clear hb6 b13))
                  have hbn := ((below_then HBm.out HBm.out.size HB6.out).setCell (p := ⟨g13, 0, none⟩) (by rw [HG13.out]; exact Nat.le_refl _) (.int .i64 e0)).setCell (p := ⟨g13, 1, none⟩) (by rw [HG13.out]; exact Nat.le_refl _) (.int .i64 e1)
                  have B13n := Aside0.mk (blk_put (cs := #[.int .i64 e0, .int .i64 y]) (blk_put (cs := #[.int .i64 x, .int .i64 y]) B13b.out 0 (.int .i64 e0) rfl) 1 (.int .i64 e1) rfl)
                  have B11n := Aside0.mk (blk_far (p := ⟨g13, 1, none⟩) (blk_far (p := ⟨g13, 0, none⟩) (blk_below B11m.out HB6.out) (Ne.symm G13.out.2.1) (.int .i64 e0)) (Ne.symm G13.out.2.1) (.int .i64 e1))
                  have LLn := Ln.below (p := p) v1 hbn
                  have HPn := Aside0.mk (HPk.out.below hbn)
                  have F4n := Aside0.mk (F4k.out.step LLn)
                  have F5n := Aside0.mk (F5k.out.step LLn)
                  have HRfn := Aside0.mk (HRfk.out.step LLn)
                  clear LLn
                  have HTo : Aside0 (InS B e0 e1) := ⟨(show InS B e0 e1 ∧ _ from HKe.out).1⟩
                  clear k5m hcb hcd u0 u1 u2 t0 c130 c131 f130 f131 hbn B13 B13b HB6 HPm F4m F5m HRfm HCm
                  generalize (w6.setCell ⟨g13, 0, none⟩ (.int .i64 e0)).setCell ⟨g13, 1, none⟩ (.int .i64 e1) = wn at *
                  obtain ⟨tx, htx⟩ : ∃ z, z = e0 := ⟨_, rfl⟩
                  obtain ⟨ty, hty⟩ : ∃ z, z = e1 := ⟨_, rfl⟩
                  rw [← htx, ← hty] at B13n HTo
                  clear htx hty
                  have B11m := B11n
                  clear B11n
                  have rg110 := fun d os => cell_regrown (w := wn) (a := ⟨g11, 0, none⟩) (v := .int .i64 a0) ((blk_cell B11m.out 0).trans rfl) d os
                  have rg111 := fun d os => cell_regrown (w := wn) (a := ⟨g11, 1, none⟩) (v := .int .i64 a1) ((blk_cell B11m.out 1).trans rfl) d os
                  have rg112 := fun d os => cell_regrown (w := wn) (a := ⟨g11, 2, none⟩) (v := .int .i64 2) ((blk_cell B11m.out 2).trans rfl) d os
                  have rg130 := fun d os => cell_regrown (w := wn) (a := ⟨g13, 0, none⟩) (v := .int .i64 tx) ((blk_cell B13n.out 0).trans rfl) d os
                  have rg131 := fun d os => cell_regrown (w := wn) (a := ⟨g13, 1, none⟩) (v := .int .i64 ty) ((blk_cell B13n.out 1).trans rfl) d os
                  have CS1 := Aside0.mk (fun d os => Calls.regrown_of (path_spot.calls a0 a1 2 a0 a1 (grow (redrawn wn d) os) rfl))
                  refine wp_region_below_tail 4 (by kernel_rfl) (by kernel_rfl) ?_
                  simp only [List.take_succ_cons, List.take_zero, List.drop_succ_cons, List.drop_zero]
                  repeat (quiet_step ((first | (go_at_call 51; with_reducible exact CS1.out _ _))))
                  refine wpQuiet_nil ?_
                  intro _ hw'
                  obtain ⟨⟨dq, osq⟩, hw''⟩ := hw'
                  subst hw''
                  have hbG := below_regrown wn dq osq
                  clear rg110 rg111 rg112 rg130 rg131 CS1
                  have LLg := Ln.below (p := p) v1 hbG
                  have HPg := Aside0.mk (HPn.out.below hbG)
                  have F4g := Aside0.mk (F4n.out.step LLg)
                  have F5g := Aside0.mk (F5n.out.step LLg)
                  have HRfg := Aside0.mk (HRfn.out.step LLg)
                  clear LLg
                  clear hbG
                  generalize grow (redrawn wn dq) osq = wg at *
                  go_wp2_with (go_at_call 52; ((with_reducible refine Calls.mono (quad_any HPg.out HIk.out HTo.out HB.out hN7 hN0) ?_); rintro e w9 ⟨rfl, v3, l3, x3, y3, hp9, hl9⟩; have HPz := Aside0.mk hp9; have F4z := Aside0.mk (F4g.out.step hl9); have F5z := Aside0.mk (F5g.out.step hl9); have HRfz := Aside0.mk (HRfg.out.step hl9); clear hp9 hl9))
                  go_roundg (rs.length + 1 - (i + 2))
                  case measure => omega
                  case rel => exact ⟨false, i + 2, v3, l3, x3, y3, by first | rfl | go_num | (simp; done), by first | rfl | go_num | (congr 1; omega), by omega, by omega, ⟨HPz.out.mono (by omega) (by omega)⟩, F4z, F5z, HRfz⟩
          · skip
            have B11q := B11
            by_cases c1 : m1 = 3
            case neg =>
              have b1 : (m1 == 3) = false := by rw [beq_eq_false_iff_ne]; exact c1
              have b1n : (m1 != 3) = true := by rw [bne_iff_ne]; exact c1
              go_wp2_with (first | (go_at_call 50; (with_reducible refine Calls.mono K1.out ?_); rintro e w_ ⟨rfl, rfl⟩) | (go_at_call 50; (with_reducible refine Calls.mono K2b.out ?_); rintro e w_ ⟨rfl, rfl⟩))
              go_ret2
              exact cont_none (keptPn HK1.out HPk.out) (below_then HB1.out HB1.out.size HPk.out.be) (.inl rfl)
            case pos =>
              subst c1
              by_cases hm3 : m2 = 3
              · subst hm3
                go_wp2_with (first | (go_at_call 50; (with_reducible refine Calls.mono K1.out ?_); rintro e w_ ⟨rfl, rfl⟩) | (go_at_call 50; (with_reducible refine Calls.mono K2b.out ?_); rintro e w_ ⟨rfl, rfl⟩))
                go_ret2
                exact cont_none (keptPn HK1.out HPk.out) (below_then HB1.out HB1.out.size HPk.out.be) (.inl rfl)
              · have b2 : (m2 == 3) = false := by rw [beq_eq_false_iff_ne]; exact hm3
                by_cases hm4 : m2 = 2
                · subst hm4
                  go_wp2_with (first | (go_at_call 50; (with_reducible refine Calls.mono K1.out ?_); rintro e w_ ⟨rfl, rfl⟩) | (go_at_call 50; (with_reducible refine Calls.mono K2.out ?_); rintro e w_ ⟨rfl, rfl⟩) | (go_at_call 50; (with_reducible refine Calls.mono K2b.out ?_); rintro e w_ ⟨rfl, rfl⟩))
                  go_ret2
                  exact cont_none (keptPn HK1.out HPk.out) (below_then HB1.out HB1.out.size HPk.out.be) (.inl rfl)
                · have b3 : (m2 == 2) = false := by rw [beq_eq_false_iff_ne]; exact hm4
                  have hw2 : IntKind.i64.wrap ((i : Int) + 2) = (i : Int) + 2 := IntWalk.i64_in _ (by omega)
                  have t4x : wk.cell? ⟨g4, 0, none⟩ = some (.int .i64 x) := (blk_cell F4k.out.blk 0).trans rfl
                  have t4y : wk.cell? ⟨g4, 1, none⟩ = some (.int .i64 y) := (blk_cell F4k.out.blk 1).trans rfl
                  go_upto_region 25 with (first | (go_at_call 50; (with_reducible refine Calls.mono K1.out ?_); rintro e w_ ⟨rfl, rfl⟩) | (go_at_call 50; (with_reducible refine Calls.mono K2.out ?_); rintro e w_ ⟨rfl, rfl⟩) | (go_at_call 50; (with_reducible refine Calls.mono K1b.out ?_); rintro e w_ ⟨rfl, rfl⟩) | (go_at_call 50; (with_reducible refine Calls.mono K2b.out ?_); rintro e w_ ⟨rfl, rfl⟩))
                  have hb13 : Below wk.heap.size wk (wk.alloc (.cells #[.int .i64 x, .int .i64 y] 30)) := below_alloc (Below.refl _ _) _
                  have B13 := Aside0.mk (blk_new wk (.cells #[.int .i64 x, .int .i64 y] 30))
                  have N13 : Aside0 (wk.heap.size ≤ wk.heap.size) := ⟨Nat.le_refl _⟩
                  have LLm := Ln.below (p := p) v1 hb13
                  have HPm := Aside0.mk (HPk.out.below hb13)
                  have F4m := Aside0.mk (F4k.out.step LLm)
                  have F5m := Aside0.mk (F5k.out.step LLm)
                  have HRfm := Aside0.mk (HRfk.out.step LLm)
                  clear LLm
                  have HCm := Aside0.mk (Kd.C_below HCk.out hb13)
                  have B11m := Aside0.mk (blk_below B11.out hb13)
                  have HBm := Aside0.mk hb13
                  have HCk2 := HCk
                  clear hb13 t4x t4y k5 s0 s1 s2 K1 K2 K1b K2b HCk B11
                  generalize wk.alloc (.cells #[.int .i64 x, .int .i64 y] 30) = wm at *
                  have hF5 := blk_lt F5k.out.blk
                  obtain ⟨g13, hg13⟩ : ∃ g, g = wk.heap.size := ⟨_, rfl⟩
                  rw [← hg13] at B13 ⊢
                  have G13 : Aside0 (g13 ≠ p ∧ some g13 ≠ v1.ownBlock) := ⟨⟨by have := blk_lt HPk.out.blk; omega, fun e => by have := HPk.out.own_lt e; omega⟩⟩
                  have G13 : Aside0 (g13 ≠ g5 ∧ g13 ≠ g11 ∧ g13 ≠ g4 ∧ g13 ≠ p ∧ some g13 ≠ v1.ownBlock ∧ w1.heap.size ≤ g13) := ⟨⟨by omega, by have := blk_lt B11q.out; omega, by have := blk_lt F4k.out.blk; omega, by have := blk_lt HPk.out.blk; omega, fun e => by have := HPk.out.own_lt e; omega, by have := HPk.out.be.size; omega⟩⟩
                  have HG13 := Aside0.mk hg13
                  clear hF5 hg13
                  by_cases hcl : (i : Int) + 2 = rs.length
                  · skip
                    have hcb : ((i : Int) + 2 == (rs.length : Int)) = true := by rw [beq_iff_eq]; exact hcl
                    have hcd : decide ((i : Int) + 2 = (rs.length : Int)) = true := decide_eq_true hcl
                    have k5m : wm.cell? ⟨g5, 0, none⟩ = some (.slice (some ad) rs.length c2) := (blk_cell F5m.out.blk 0).trans rfl
                    go_upto_region 30 with fail
                    clear k5m hcb hcd
                    have HTo : Aside0 (InS B x y) := HXY
                    obtain ⟨tx, htx⟩ : ∃ z, z = x := ⟨_, rfl⟩
                    obtain ⟨ty, hty⟩ : ∃ z, z = y := ⟨_, rfl⟩
                    have B13n := B13
                    rw [← htx, ← hty] at B13n HTo
                    obtain ⟨wn, hwn⟩ : ∃ z, z = wm := ⟨_, rfl⟩
                    rw [← hwn] at B13n HPm F4m F5m HRfm HCm B11m ⊢
                    clear hwn htx hty B13
                    have rg110 := fun d os => cell_regrown (w := wn) (a := ⟨g11, 0, none⟩) (v := .int .i64 a0) ((blk_cell B11m.out 0).trans rfl) d os
                    have rg111 := fun d os => cell_regrown (w := wn) (a := ⟨g11, 1, none⟩) (v := .int .i64 a1) ((blk_cell B11m.out 1).trans rfl) d os
                    have rg112 := fun d os => cell_regrown (w := wn) (a := ⟨g11, 2, none⟩) (v := .int .i64 3) ((blk_cell B11m.out 2).trans rfl) d os
                    have rg130 := fun d os => cell_regrown (w := wn) (a := ⟨g13, 0, none⟩) (v := .int .i64 tx) ((blk_cell B13n.out 0).trans rfl) d os
                    have rg131 := fun d os => cell_regrown (w := wn) (a := ⟨g13, 1, none⟩) (v := .int .i64 ty) ((blk_cell B13n.out 1).trans rfl) d os
                    have CS1 := Aside0.mk (fun d os => Calls.regrown_of (path_spot.calls a0 a1 3 a0 a1 (grow (redrawn wn d) os) rfl))
                    have hin := hin1 (by decide)
                    obtain ⟨adf, ef, w0_, w1_, w2_⟩ := at_T70 HCm.out ((i : Int) + 1) (by omega) hin
                    cases ef
                    have HKf := Aside0.mk (HRS.out _ (rd_mem (l := rs) (i := (i : Int) + 1) (by omega) hin))
                    generalize rd_T70 rs ((i : Int) + 1) = kf at w0_ w1_ w2_ HKf
                    obtain ⟨f0, f1, f2⟩ := kf
                    dsimp only at w0_ w1_ w2_
                    rw [show ((i : Int) + 1).toNat = i + 1 by omega] at w0_ w1_ w2_
                    have ea1 : ((i : Int) + 1).toNat = i + 1 := by omega
                    have pa1 : (0 : Int) ≤ (i : Int) + 1 := by omega
                    have ra1 : IntKind.i64.wrap ((i : Int) + 1) = (i : Int) + 1 := IntWalk.i64_in _ (by omega)
                    have rr0 := fun d os => cell_regrown w0_ d os
                    have rr1 := fun d os => cell_regrown w1_ d os
                    have rr2 := fun d os => cell_regrown w2_ d os
                    have rg5 := fun d os => cell_regrown (w := wn) (a := ⟨g5, 0, none⟩) (v := .slice (some ad) rs.length c2) ((blk_cell F5m.out.blk 0).trans rfl) d os
                    have HFo : Aside0 (InS B f0 f1) := ⟨(show InS B f0 f1 ∧ _ from HKf.out).1⟩
                    have CS2 := Aside0.mk (fun d os => Calls.regrown_of (path_spot.calls f0 f1 f2 f0 f1 (grow (redrawn wn d) os) rfl))
                    clear w0_ w1_ w2_
                    refine wp_region_below_tail 10 (by kernel_rfl) (by kernel_rfl) ?_
                    simp only [List.take_succ_cons, List.take_zero, List.drop_succ_cons, List.drop_zero]
                    repeat (quiet_step ((first | (go_at_call 51; with_reducible exact CS1.out _ _) | (go_at_call 51; with_reducible exact CS2.out _ _))))
                    refine wpQuiet_nil ?_
                    intro _ hw'
                    obtain ⟨⟨dq, osq⟩, hw''⟩ := hw'
                    subst hw''
                    have hbG := below_regrown wn dq osq
                    clear rg110 rg111 rg112 rg130 rg131 rr0 rr1 rr2 rg5 CS1 CS2
                    have LLg := Ln.below (p := p) v1 hbG
                    have HPg := Aside0.mk (HPm.out.below hbG)
                    have F4g := Aside0.mk (F4m.out.step LLg)
                    have F5g := Aside0.mk (F5m.out.step LLg)
                    have HRfg := Aside0.mk (HRfm.out.step LLg)
                    clear LLg
                    clear hbG
                    generalize grow (redrawn wn dq) osq = wg at *
                    go_wp2_with (go_at_call 54; ((with_reducible refine Calls.mono (cubic_any HPg.out HIk.out HFo.out HTo.out HB.out hN7 hN0) ?_); rintro e w9 ⟨rfl, v3, l3, x3, y3, hp9, hl9⟩; have HPz := Aside0.mk hp9; have F4z := Aside0.mk (F4g.out.step hl9); have F5z := Aside0.mk (F5g.out.step hl9); have HRfz := Aside0.mk (HRfg.out.step hl9); clear hp9 hl9))
                    go_roundg (rs.length + 1 - (i + 3))
                    case measure => omega
                    case rel => exact ⟨true, i + 3, v3, l3, x3, y3, by first | rfl | go_num | (simp; done), by first | rfl | go_num | (congr 1; omega), by omega, by omega, ⟨HPz.out.mono (by omega) (by omega)⟩, F4z, F5z, HRfz⟩
                  · skip
                    have hcb : ((i : Int) + 2 == (rs.length : Int)) = false := by rw [beq_eq_false_iff_ne]; exact hcl
                    have hcd : decide ((i : Int) + 2 = (rs.length : Int)) = false := decide_eq_false hcl
                    have hin : (i : Int) + 2 < rs.length := by have := hin1 (by decide); omega
                    have k5m : wm.cell? ⟨g5, 0, none⟩ = some (.slice (some ad) rs.length c2) := (blk_cell F5m.out.blk 0).trans rfl
                    obtain ⟨ade, ee, u0, u1, u2⟩ := at_T70 HCm.out ((i : Int) + 2) (by omega) hin
                    cases ee
                    have HKe := Aside0.mk (HRS.out _ (rd_mem (l := rs) (i := (i : Int) + 2) (by omega) hin))
                    generalize rd_T70 rs ((i : Int) + 2) = ke at u0 u1 u2 HKe
                    obtain ⟨e0, e1, e2⟩ := ke
                    dsimp only at u0 u1 u2
                    rw [show ((i : Int) + 2).toNat = i + 2 by omega] at u0 u1 u2
                    have t0 : wm.cell? ⟨g13, 0, none⟩ = some (.int .i64 x) := (blk_cell B13.out 0).trans rfl
                    go_upto_region 30 with (go_at_call 51; ((with_reducible refine Calls.mono (path_spot.calls e0 e1 _ e0 e1 _ rfl) ?_); rintro e w6 ⟨rfl, hb6⟩; have HB6 := Aside0.mk hb6; have b13 := blk_below B13.out hb6; have c130 : w6.cell? ⟨g13, 0, none⟩ = some (.int .i64 x) := (blk_cell b13 0).trans rfl; have c131 : w6.cell? ⟨g13, 1, none⟩ = some (.int .i64 y) := (blk_cell b13 1).trans rfl; have f130 := blk_frozen b13 0; have f131 := blk_frozen b13 1; have B13b := Aside0.mk b13; clear hb6 b13))
                    have hbn := ((below_then HBm.out HBm.out.size HB6.out).setCell (p := ⟨g13, 0, none⟩) (by rw [HG13.out]; exact Nat.le_refl _) (.int .i64 e0)).setCell (p := ⟨g13, 1, none⟩) (by rw [HG13.out]; exact Nat.le_refl _) (.int .i64 e1)
                    have B13n := Aside0.mk (blk_put (cs := #[.int .i64 e0, .int .i64 y]) (blk_put (cs := #[.int .i64 x, .int .i64 y]) B13b.out 0 (.int .i64 e0) rfl) 1 (.int .i64 e1) rfl)
                    have B11n := Aside0.mk (blk_far (p := ⟨g13, 1, none⟩) (blk_far (p := ⟨g13, 0, none⟩) (blk_below B11m.out HB6.out) (Ne.symm G13.out.2.1) (.int .i64 e0)) (Ne.symm G13.out.2.1) (.int .i64 e1))
                    have HCn0 := Kd.C_below HCk2.out hbn
                    have LLn := Ln.below (p := p) v1 hbn
                    have HPn := Aside0.mk (HPk.out.below hbn)
                    have F4n := Aside0.mk (F4k.out.step LLn)
                    have F5n := Aside0.mk (F5k.out.step LLn)
                    have HRfn := Aside0.mk (HRfk.out.step LLn)
                    clear LLn
                    have HTo : Aside0 (InS B e0 e1) := ⟨(show InS B e0 e1 ∧ _ from HKe.out).1⟩
                    clear k5m hcb hcd u0 u1 u2 t0 c130 c131 f130 f131 hbn B13 B13b HB6 HPm F4m F5m HRfm HCm
                    generalize (w6.setCell ⟨g13, 0, none⟩ (.int .i64 e0)).setCell ⟨g13, 1, none⟩ (.int .i64 e1) = wn at *
                    obtain ⟨tx, htx⟩ : ∃ z, z = e0 := ⟨_, rfl⟩
                    obtain ⟨ty, hty⟩ : ∃ z, z = e1 := ⟨_, rfl⟩
                    rw [← htx, ← hty] at B13n HTo
                    clear htx hty
                    have HCn := Aside0.mk HCn0
                    clear HCn0
                    have B11m := B11n
                    clear B11n
                    have rg110 := fun d os => cell_regrown (w := wn) (a := ⟨g11, 0, none⟩) (v := .int .i64 a0) ((blk_cell B11m.out 0).trans rfl) d os
                    have rg111 := fun d os => cell_regrown (w := wn) (a := ⟨g11, 1, none⟩) (v := .int .i64 a1) ((blk_cell B11m.out 1).trans rfl) d os
                    have rg112 := fun d os => cell_regrown (w := wn) (a := ⟨g11, 2, none⟩) (v := .int .i64 3) ((blk_cell B11m.out 2).trans rfl) d os
                    have rg130 := fun d os => cell_regrown (w := wn) (a := ⟨g13, 0, none⟩) (v := .int .i64 tx) ((blk_cell B13n.out 0).trans rfl) d os
                    have rg131 := fun d os => cell_regrown (w := wn) (a := ⟨g13, 1, none⟩) (v := .int .i64 ty) ((blk_cell B13n.out 1).trans rfl) d os
                    have CS1 := Aside0.mk (fun d os => Calls.regrown_of (path_spot.calls a0 a1 3 a0 a1 (grow (redrawn wn d) os) rfl))
                    have hin := hin1 (by decide)
                    obtain ⟨adf, ef, w0_, w1_, w2_⟩ := at_T70 HCn.out ((i : Int) + 1) (by omega) hin
                    cases ef
                    have HKf := Aside0.mk (HRS.out _ (rd_mem (l := rs) (i := (i : Int) + 1) (by omega) hin))
                    generalize rd_T70 rs ((i : Int) + 1) = kf at w0_ w1_ w2_ HKf
                    obtain ⟨f0, f1, f2⟩ := kf
                    dsimp only at w0_ w1_ w2_
                    rw [show ((i : Int) + 1).toNat = i + 1 by omega] at w0_ w1_ w2_
                    have ea1 : ((i : Int) + 1).toNat = i + 1 := by omega
                    have pa1 : (0 : Int) ≤ (i : Int) + 1 := by omega
                    have ra1 : IntKind.i64.wrap ((i : Int) + 1) = (i : Int) + 1 := IntWalk.i64_in _ (by omega)
                    have rr0 := fun d os => cell_regrown w0_ d os
                    have rr1 := fun d os => cell_regrown w1_ d os
                    have rr2 := fun d os => cell_regrown w2_ d os
                    have rg5 := fun d os => cell_regrown (w := wn) (a := ⟨g5, 0, none⟩) (v := .slice (some ad) rs.length c2) ((blk_cell F5n.out.blk 0).trans rfl) d os
                    have HFo : Aside0 (InS B f0 f1) := ⟨(show InS B f0 f1 ∧ _ from HKf.out).1⟩
                    have CS2 := Aside0.mk (fun d os => Calls.regrown_of (path_spot.calls f0 f1 f2 f0 f1 (grow (redrawn wn d) os) rfl))
                    clear w0_ w1_ w2_
                    refine wp_region_below_tail 10 (by kernel_rfl) (by kernel_rfl) ?_
                    simp only [List.take_succ_cons, List.take_zero, List.drop_succ_cons, List.drop_zero]
                    repeat (quiet_step ((first | (go_at_call 51; with_reducible exact CS1.out _ _) | (go_at_call 51; with_reducible exact CS2.out _ _))))
                    refine wpQuiet_nil ?_
                    intro _ hw'
                    obtain ⟨⟨dq, osq⟩, hw''⟩ := hw'
                    subst hw''
                    have hbG := below_regrown wn dq osq
                    clear rg110 rg111 rg112 rg130 rg131 rr0 rr1 rr2 rg5 CS1 CS2
                    have LLg := Ln.below (p := p) v1 hbG
                    have HPg := Aside0.mk (HPn.out.below hbG)
                    have F4g := Aside0.mk (F4n.out.step LLg)
                    have F5g := Aside0.mk (F5n.out.step LLg)
                    have HRfg := Aside0.mk (HRfn.out.step LLg)
                    clear LLg
                    clear hbG
                    generalize grow (redrawn wn dq) osq = wg at *
                    go_wp2_with (go_at_call 54; ((with_reducible refine Calls.mono (cubic_any HPg.out HIk.out HFo.out HTo.out HB.out hN7 hN0) ?_); rintro e w9 ⟨rfl, v3, l3, x3, y3, hp9, hl9⟩; have HPz := Aside0.mk hp9; have F4z := Aside0.mk (F4g.out.step hl9); have F5z := Aside0.mk (F5g.out.step hl9); have HRfz := Aside0.mk (HRfg.out.step hl9); clear hp9 hl9))
                    go_roundg (rs.length + 1 - (i + 3))
                    case measure => omega
                    case rel => exact ⟨false, i + 3, v3, l3, x3, y3, by first | rfl | go_num | (simp; done), by first | rfl | go_num | (congr 1; omega), by omega, by omega, ⟨HPz.out.mono (by omega) (by omega)⟩, F4z, F5z, HRfz⟩
        · have hltz : ¬ (i : Int) < (rs.length : Int) := by omega
          obtain ⟨Av, cv, rfl⟩ := Kd.R_slice HP.out.row
          have c0 : wr.cell? ⟨p, 0, none⟩ = some (.slice Av l1.length cv) := (blk_cell HP.out.blk 0).trans rfl
          have f0 := blk_frozen HP.out.blk 0
          have hlen := HP.out.len
          cases cl
          · go_wp2
            go_ret2
            refine ⟨_, true, l1, rfl, Kd.R_lower HP.out.row HK1.out.1, HP.out.inn, by omega, keptPn HK1.out HP.out, below_then HB1.out HB1.out.size HP.out.be, fun _ _ => HP.out.nz (by omega)⟩
          · by_cases h1 : 1 < l1.length
            · have hd1 : decide ((1 : Int) < (l1.length : Int)) = true := decide_eq_true (by omega)
              have hw1 : IntKind.i64.wrap ((l1.length : Int) - 1) = (l1.length : Int) - 1 := IntWalk.i64_in _ (by omega)
              have hp1 : (0 : Int) ≤ (l1.length : Int) - 1 := by omega
              have hp1b : (1 : Int) ≤ (l1.length : Int) := by omega
              have hp2 : (l1.length : Int) - 1 ≤ cv := by have := (Kd.R_reads' HP.out.row).2.1; omega
              have ht1 : ((l1.length : Int) - 1).toNat = l1.length - 1 := by omega
              have rc0 := fun d os => cell_regrown c0 d os
              go_upto_region 33 with fail
              clear c0 f0
              refine wp_region_below_tail 14 (by kernel_rfl) (by kernel_rfl) ?_
              simp only [List.take_succ_cons, List.take_zero, List.drop_succ_cons, List.drop_zero]
              repeat (quiet_step (fail))
              refine wpQuiet_nil ?_
              intro _ hw'
              obtain ⟨⟨dq, osq⟩, hw''⟩ := hw'
              subst hw''
              have HPg := Aside0.mk (HP.out.below (below_regrown wr dq osq))
              clear rc0
              generalize grow (redrawn wr dq) osq = wg at *
              have cg : wg.cell? ⟨p, 0, none⟩ = some (.slice Av l1.length cv) := (blk_cell HPg.out.blk 0).trans rfl
              have fg := blk_frozen HPg.out.blk 0
              go_wp2
              go_ret2
              refine ⟨_, true, l1.take (l1.length - 1), rfl, Kd.R_lower (Kd.R_set (Kd.R_take HPg.out.row (by omega)) HPg.out.blk ne100 0 _) HK1.out.1, fun s hs => HPg.out.inn s (List.mem_of_mem_take hs), by simp; omega, ?_, (below_then HB1.out HB1.out.size HPg.out.be).setCell (Nat.le_trans HB1.out.size HPg.out.hp) _, fun _ _ he => by have := congrArg List.length he; simp at this; omega⟩
              have hkk := keptPn HK1.out HPg.out
              exact ⟨by simpa using hkk.1, fun j hj hnj => by
                rw [Below.heap_setCell _ _ _ j (by have := HPg.out.hp; have := HK1.out.1; simp; omega)]
                exact hkk.2 j hj hnj⟩
            · have hd1 : decide ((1 : Int) < (l1.length : Int)) = false := decide_eq_false (by omega)
              go_wp2
              go_ret2
              refine ⟨_, true, l1, rfl, Kd.R_lower HP.out.row HK1.out.1, HP.out.inn, by omega, keptPn HK1.out HP.out, below_then HB1.out HB1.out.size HP.out.be, fun _ _ => HP.out.nz (by omega)⟩
end Go.Proofs.Yteoonjnmghponaa.H
