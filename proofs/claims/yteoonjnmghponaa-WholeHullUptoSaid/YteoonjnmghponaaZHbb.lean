/- Package path: the pen's curve with one control, walked. Package path: the pen's curve with two controls, walked. Package path: what round and middle answer, and the closure that tells a knot's kind. -/
import Derived.Test.YteoonjnmghponaaZHab
namespace Go.Proofs.Yteoonjnmghponaa.H
open Go.RowKit Go.Sort Go.Proofs.Yteoonjnmghponaa.F Go.Proofs.YteoonjnmghponaaW.PrintWords Go.Proofs.YteoonjnmghponaaW.PrintLast Go.Proofs.YteoonjnmghponaaW.PrintMore
set_option linter.unusedVariables false
set_option linter.unusedSimpArgs false
theorem InS.ok {B : Bx} {x y : Int} (h : InS B x y) (hB : B.Ok) : (-2147483647 ≤ x ∧ x ≤ 2147483647) ∧ (-2147483647 ≤ y ∧ y ≤ 2147483647) := by
  obtain ⟨h0, h1, h2, h3⟩ := h
  have := hB.a; have := hB.b; have := hB.c; have := hB.d
  exact ⟨⟨by omega, by omega⟩, ⟨by omega, by omega⟩⟩
/-- The curve's number and its nearest. -/
theorem quad_near {lo hi a c b i n : Int} (h0 : -2147483647 ≤ lo) (h1 : hi ≤ 2147483647) (ha : lo ≤ a ∧ a ≤ hi) (hc : lo ≤ c ∧ c ≤ hi) (hb : lo ≤ b ∧ b ≤ hi) (hi0 : 1 ≤ i) (hin : i ≤ n) (hn : n ≤ 16) :
    ∃ q, path_near.f 3 (a * (n - i) * (n - i) + 2 * c * i * (n - i) + b * i * i) (n * n) = some q ∧ lo ≤ q ∧ q ≤ hi := by
  have hq := quad_in (n := n) (show 0 ≤ i by omega) (show 0 ≤ n - i by omega) (by omega) ha hc hb
  have hm := mb (x := n) (y := n) (X := 16) (Y := 16) (by omega) hn (by omega) hn (by decide)
  have hp : 1 * 1 ≤ n * n := Int.mul_le_mul (by omega) (by omega) (by decide) (by omega)
  have hl := mb (x := lo) (y := n * n) (X := 2147483647) (Y := 256) (by omega) (by omega) (by omega) (by omega) (by decide)
  have hh := mb (x := hi) (y := n * n) (X := 2147483647) (Y := 256) (by omega) (by omega) (by omega) (by omega) (by decide)
  exact near_ok (by omega) (by omega) (by omega) (by omega) hq.1 hq.2 h0 h1
set_option maxHeartbeats 1000000 in
set_option maxRecDepth 100000 in
theorem quad_any {w W : World} {p N : Nat} {B : Bx} {v : Value} {l : List S30} {x0 y0 cx cy tx ty : Int} (h : Pn w p B N v l x0 y0 W) (hc : InS B cx cy) (ht : InS B tx ty) (hB : B.Ok) (hN : N ≤ 7000000000000) (hN0 : 0 < N) :
    Calls Try.prog 52 #[.pointer (some ⟨p, 0, none⟩), .agg #[.int .i64 cx, .int .i64 cy], .agg #[.int .i64 tx, .int .i64 ty]] W fun e w' => e = .returned (.tuple #[]) ∧ ∃ v' l' x' y', Pn w p B (N + 16) v' l' x' y' w' ∧ Ln p W v w' v' := by
  have HP := Aside0.mk h
  have HC := Aside0.mk hc
  have HT := Aside0.mk ht
  have HB := Aside0.mk hB
  have HA := Aside0.mk (h.now (by omega))
  have HN := Aside0.mk hN
  obtain ⟨d, hd⟩ := bend_ok x0 y0 cx cy tx ty
  obtain ⟨n, hn, hn1, hn16⟩ := parts_ok d
  have HD := Aside0.mk hd
  have HNn := Aside0.mk hn
  have hpl := blk_lt h.blk
  have c1 : W.cell? ⟨p, 1, none⟩ = some (.int .i64 x0) := (blk_cell h.blk 1).trans rfl
  have c2 : W.cell? ⟨p, 2, none⟩ = some (.int .i64 y0) := (blk_cell h.blk 2).trans rfl
  clear h hc ht hB hd hn hN
  have LN0 := Aside0.mk (Ln.refl p W v)
  go_enter Try.func52, Try.ntmps52
  go_upto_region 2 with fail
  obtain ⟨A3, hA3⟩ : ∃ X, X = ((W.alloc (.cells #[.int .i64 cx, .int .i64 cy] 30)).alloc (.cells #[.int .i64 tx, .int .i64 ty] 30)).alloc (.cells #[.int .i64 x0, .int .i64 y0] 30) := ⟨_, rfl⟩
  have hbA : Below W.heap.size W A3 := by
    rw [hA3]
    exact below_alloc (below_alloc (below_alloc (Below.refl _ _) _) _) _
  have b4 : A3.heap[W.heap.size]? = some (.cells #[.int .i64 cx, .int .i64 cy] 30 (0, 0)) := by
    rw [hA3]
    exact blk_alloc (blk_alloc (blk_new W _) _) _
  have b5 : A3.heap[W.heap.size + 1]? = some (.cells #[.int .i64 tx, .int .i64 ty] 30 (0, 0)) := by
    rw [hA3]
    have := blk_alloc (blk_new (W.alloc (.cells #[.int .i64 cx, .int .i64 cy] 30)) (.cells #[.int .i64 tx, .int .i64 ty] 30)) (.cells #[.int .i64 x0, .int .i64 y0] 30)
    rw [World.size_alloc] at this
    exact this
  have b6 : A3.heap[W.heap.size + 1 + 1]? = some (.cells #[.int .i64 x0, .int .i64 y0] 30 (0, 0)) := by
    rw [hA3]
    have := blk_new ((W.alloc (.cells #[.int .i64 cx, .int .i64 cy] 30)).alloc (.cells #[.int .i64 tx, .int .i64 ty] 30)) (.cells #[.int .i64 x0, .int .i64 y0] 30)
    rw [World.size_alloc, World.size_alloc] at this
    exact this
  rw [← hA3]
  have F4 := Aside0.mk (HP.out.fr (Nat.le_refl _) b4)
  have F5 := Aside0.mk (HP.out.fr (k := W.heap.size + 1) (by omega) b5)
  have F6 := Aside0.mk (HP.out.fr (k := W.heap.size + 1 + 1) (by omega) b6)
  have HPA := Aside0.mk (HP.out.below hbA)
  have LNA := Aside0.mk (Ln.below (p := p) v hbA)
  generalize W.heap.size + 1 + 1 = g6 at *
  generalize W.heap.size + 1 = g5 at *
  obtain ⟨g4, hg4⟩ : ∃ g, g = W.heap.size := ⟨_, rfl⟩
  rw [← hg4] at b4 F4 ⊢
  have k40 : A3.cell? ⟨g4, 0, none⟩ = some (.int .i64 cx) := (blk_cell b4 0).trans rfl
  have k41 : A3.cell? ⟨g4, 1, none⟩ = some (.int .i64 cy) := (blk_cell b4 1).trans rfl
  have k50 : A3.cell? ⟨g5, 0, none⟩ = some (.int .i64 tx) := (blk_cell b5 0).trans rfl
  have k51 : A3.cell? ⟨g5, 1, none⟩ = some (.int .i64 ty) := (blk_cell b5 1).trans rfl
  have k60 : A3.cell? ⟨g6, 0, none⟩ = some (.int .i64 x0) := (blk_cell b6 0).trans rfl
  have k61 : A3.cell? ⟨g6, 1, none⟩ = some (.int .i64 y0) := (blk_cell b6 1).trans rfl
  clear hA3 hbA b4 b5 b6 hg4 HP LN0 c1 c2 hpl
  go_wp2_with (first | (go_at_call 98; ((with_reducible refine Calls.mono (path_bend.calls _ _ _ _ _ _ _ _ HD.out) ?_); rintro e w1 ⟨rfl, hb⟩; have HB1 := Aside0.mk hb; clear hb)) | (go_at_call 97; ((with_reducible refine Calls.mono (path_parts.calls 6 _ _ _ HNn.out) ?_); rintro e w2 ⟨rfl, hdr⟩; have HB2 : Aside0 (Below w1.heap.size w1 w2) := ⟨by obtain ⟨m, rfl⟩ := hdr; exact pw_below_drewN (Below.refl _ _) m⟩; clear hdr)))
  clear k40 k41 k50 k51 k60 k61
  have hbB : Below A3.heap.size A3 ((w2.alloc (.cells #[.int .i64 n] 3)).alloc (.cells #[.int .i64 1] 3)) := below_alloc (below_alloc (below_step HB1.out HB2.out) _) _
  have b7 := blk_alloc (blk_new w2 (.cells #[.int .i64 n] 3)) (.cells #[.int .i64 1] 3)
  have b8 := blk_new (w2.alloc (.cells #[.int .i64 n] 3)) (.cells #[.int .i64 1] 3)
  rw [World.size_alloc] at b8
  have hs1 : A3.heap.size ≤ w2.heap.size := Nat.le_trans HB1.out.size HB2.out.size
  have LB := Aside0.mk (Ln.below (p := p) v hbB)
  have F7 := Aside0.mk (HPA.out.fr hs1 b7)
  have F8 := Aside0.mk (HPA.out.fr (k := w2.heap.size + 1) (by omega) b8)
  have HPB : Aside0 (Pn w p B (N + ((1 : Int) - 1).toNat) v l x0 y0 ((w2.alloc (.cells #[.int .i64 n] 3)).alloc (.cells #[.int .i64 1] 3))) := ⟨HPA.out.below hbB⟩
  have FF : Aside0 (Fr p v _ g4 _ _ ∧ Fr p v _ g5 _ _ ∧ Fr p v _ g6 _ _ ∧ Fr p v _ _ _ _ ∧ Fr p v _ _ _ _) := ⟨F4.out.step LB.out, F5.out.step LB.out, F6.out.step LB.out, F7.out, F8.out⟩
  have LNB := Aside0.mk (LNA.out.trans LB.out)
  clear F4 F5 F6 F7 F8 hbB b7 b8 hs1 HB1 HB2 HPA LNA LB HD HNn
  generalize (w2.alloc (.cells #[.int .i64 n] 3)).alloc (.cells #[.int .i64 1] 3) = w3 at *
  generalize w2.heap.size + 1 = g8 at *
  generalize w2.heap.size = g7 at *
  go_loopg [8, 9, 10] n.toNat (fun kx s8 s9 s10 wr => ∃ (g8 : Nat) (i : Int) (v' : Value) (l' : List S30) (x' y' : Int), s8 = .pointer (some ⟨g8, 0, none⟩) ∧ 1 ≤ i ∧ i ≤ n + 1 ∧ (n + 1 - i).toNat ≤ kx ∧ Aside0 (Pn w p B (N + (i - 1).toNat) v' l' x' y' wr) ∧ Aside0 (Ln p W v wr v') ∧ Aside0 (Fr p v' wr g4 #[.int .i64 cx, .int .i64 cy] 30 ∧ Fr p v' wr g5 #[.int .i64 tx, .int .i64 ty] 30 ∧ Fr p v' wr g6 #[.int .i64 x0, .int .i64 y0] 30 ∧ Fr p v' wr g7 #[.int .i64 n] 3 ∧ Fr p v' wr g8 #[.int .i64 i] 3))
  case atStart => exact ⟨g8, 1, v, l, x0, y0, rfl, by omega, by omega, by omega, HPB, LNB, FF⟩
  case round =>
    clear HPB LNB FF
    obtain ⟨g9, i, v1, l1, x1, y1, rfl, hi1, hin, hkx, HP, HL, HF⟩ := hrel
    have k7 : wr.cell? ⟨g7, 0, none⟩ = some (.int .i64 n) := (blk_cell HF.out.2.2.2.1.blk 0).trans rfl
    have k8 : wr.cell? ⟨g9, 0, none⟩ = some (.int .i64 i) := (blk_cell HF.out.2.2.2.2.blk 0).trans rfl
    by_cases hle : i ≤ n
    · have hw : IntKind.i64.wrap (n - i) = n - i := IntWalk.i64_in _ (by omega)
      obtain ⟨q1, hq1, a1, a2⟩ := quad_near HB.out.a HB.out.c ⟨HA.out.1, HA.out.2.1⟩ ⟨HC.out.1, HC.out.2.1⟩ ⟨HT.out.1, HT.out.2.1⟩ hi1 hle hn16
      obtain ⟨q2, hq2, a3, a4⟩ := quad_near HB.out.b HB.out.d ⟨HA.out.2.2.1, HA.out.2.2.2⟩ ⟨HC.out.2.2.1, HC.out.2.2.2⟩ ⟨HT.out.2.2.1, HT.out.2.2.2⟩ hi1 hle hn16
      have HIN : Aside0 (InS B q1 q2) := ⟨⟨a1, a2, a3, a4⟩⟩
      have HQ1 := Aside0.mk hq1
      have HQ2 := Aside0.mk hq2
      clear hq1 hq2 a1 a2 a3 a4
      go_upto_region 8 with fail
      have hbJ : Below wr.heap.size wr (wr.alloc (.cells #[.int .i64 (n - i)] 3)) := below_alloc (Below.refl _ _) _
      have LJ := Aside0.mk (Ln.below (p := p) v1 hbJ)
      have FJ := Aside0.mk (HP.out.fr (Nat.le_refl _) (blk_new wr (.cells #[.int .i64 (n - i)] 3)))
      have HPJ := Aside0.mk (HP.out.below hbJ)
      have HFJ := Aside0.mk (show _ ∧ _ ∧ _ ∧ _ ∧ _ from ⟨HF.out.1.step LJ.out, HF.out.2.1.step LJ.out, HF.out.2.2.1.step LJ.out, HF.out.2.2.2.1.step LJ.out, HF.out.2.2.2.2.step LJ.out⟩)
      have HLJ := Aside0.mk (HL.out.trans LJ.out)
      clear k7 k8 hbJ LJ HP HL HF
      generalize wr.alloc (.cells #[.int .i64 (n - i)] 3) = wj at *
      generalize wr.heap.size = gj at *
      have k6x := fun d os => cell_regrown (w := wj) (a := ⟨g6, 0, none⟩) (v := .int .i64 x0) ((blk_cell HFJ.out.2.2.1.blk 0).trans rfl) d os
      have k6y := fun d os => cell_regrown (w := wj) (a := ⟨g6, 1, none⟩) (v := .int .i64 y0) ((blk_cell HFJ.out.2.2.1.blk 1).trans rfl) d os
      have k4x := fun d os => cell_regrown (w := wj) (a := ⟨g4, 0, none⟩) (v := .int .i64 cx) ((blk_cell HFJ.out.1.blk 0).trans rfl) d os
      have k4y := fun d os => cell_regrown (w := wj) (a := ⟨g4, 1, none⟩) (v := .int .i64 cy) ((blk_cell HFJ.out.1.blk 1).trans rfl) d os
      have k5x := fun d os => cell_regrown (w := wj) (a := ⟨g5, 0, none⟩) (v := .int .i64 tx) ((blk_cell HFJ.out.2.1.blk 0).trans rfl) d os
      have k5y := fun d os => cell_regrown (w := wj) (a := ⟨g5, 1, none⟩) (v := .int .i64 ty) ((blk_cell HFJ.out.2.1.blk 1).trans rfl) d os
      have kj := fun d os => cell_regrown (w := wj) (a := ⟨gj, 0, none⟩) (v := .int .i64 (n - i)) ((blk_cell FJ.out.blk 0).trans rfl) d os
      have ki := fun d os => cell_regrown (w := wj) (a := ⟨g9, 0, none⟩) (v := .int .i64 i) ((blk_cell HFJ.out.2.2.2.2.blk 0).trans rfl) d os
      have kn := fun d os => cell_regrown (w := wj) (a := ⟨g7, 0, none⟩) (v := .int .i64 n) ((blk_cell HFJ.out.2.2.2.1.blk 0).trans rfl) d os
      have cQ1 := fun d os => Calls.regrown_of (quadAt_any (kj d os) (ki d os) (kn d os) (HA.out.ok HB.out).1 (HC.out.ok HB.out).1 (HT.out.ok HB.out).1 ⟨by omega, by omega⟩ ⟨by omega, by omega⟩ ⟨by omega, by omega⟩ HQ1.out)
      have cQ2 := fun d os => Calls.regrown_of (quadAt_any (kj d os) (ki d os) (kn d os) (HA.out.ok HB.out).2 (HC.out.ok HB.out).2 (HT.out.ok HB.out).2 ⟨by omega, by omega⟩ ⟨by omega, by omega⟩ ⟨by omega, by omega⟩ HQ2.out)
      have CQ1 := Aside0.mk cQ1
      have CQ2 := Aside0.mk cQ2
      clear kj ki kn cQ1 cQ2
      refine wp_region_below_tail 18 (by kernel_rfl) (by kernel_rfl) ?_
      simp only [List.take_succ_cons, List.take_zero, List.drop_succ_cons, List.drop_zero]
      repeat (quiet_step ((go_at_call 99; first | (with_reducible exact CQ1.out _ _) | (with_reducible exact CQ2.out _ _))))
      refine wpQuiet_nil ?_
      intro _ hw'
      obtain ⟨⟨dq, osq⟩, hw''⟩ := hw'
      subst hw''
      clear k6x k6y k4x k4y k5x k5y CQ1 CQ2
      have hbG := below_regrown wj dq osq
      have LG := Aside0.mk (Ln.below (p := p) v1 hbG)
      have HPG := Aside0.mk (HPJ.out.below hbG)
      have HFG := Aside0.mk (show _ ∧ _ ∧ _ ∧ _ ∧ _ from ⟨HFJ.out.1.step LG.out, HFJ.out.2.1.step LG.out, HFJ.out.2.2.1.step LG.out, HFJ.out.2.2.2.1.step LG.out, HFJ.out.2.2.2.2.step LG.out⟩)
      have HLG := Aside0.mk (HLJ.out.trans LG.out)
      clear hbG LG HPJ HFJ HLJ FJ
      generalize grow (redrawn wj dq) osq = wk at *
      go_wp2_with (go_at_call 49; ((with_reducible refine Calls.mono (line_any HPG.out HIN.out (by have := HN.out; omega)) ?_); rintro e w5 ⟨rfl, v2, l2, hp5, hl5⟩; have HP5 := Aside0.mk hp5; have HL5 := Aside0.mk (HLG.out.trans hl5); have HF5 := Aside0.mk (show _ ∧ _ ∧ _ ∧ _ ∧ _ from ⟨HFG.out.1.step hl5, HFG.out.2.1.step hl5, HFG.out.2.2.1.step hl5, HFG.out.2.2.2.1.step hl5, HFG.out.2.2.2.2.step hl5⟩); have k9 : w5.cell? ⟨g9, 0, none⟩ = some (.int .i64 i) := (blk_cell HF5.out.2.2.2.2.blk 0).trans rfl; clear hp5 hl5 HPG HLG HFG))
      have hbK : Below w5.heap.size w5 (w5.alloc (.cells #[.int .i64 (i + 1)] 3)) := below_alloc (Below.refl _ _) _
      have LK := Ln.below (p := p) v2 hbK
      have FK := HP5.out.fr (Nat.le_refl _) (blk_new w5 (.cells #[.int .i64 (i + 1)] 3))
      go_roundg (n - i).toNat
      case measure => omega
      case rel => exact ⟨w5.heap.size, i + 1, v2, l2, q1, q2, rfl, by omega, by omega, by omega, ⟨(HP5.out.below hbK).mono (by omega) (by omega)⟩, ⟨HL5.out.trans LK⟩, ⟨HF5.out.1.step LK, HF5.out.2.1.step LK, HF5.out.2.2.1.step LK, HF5.out.2.2.2.1.step LK, FK⟩⟩
    · have hle2 : ¬ i ≤ n := hle
      go_wp2
      go_end0
      exact ⟨rfl, v1, ⟨l1, x1, y1, HP.out.mono (by omega) (by omega)⟩, HL.out⟩
end Go.Proofs.Yteoonjnmghponaa.H
namespace Go.Proofs.Yteoonjnmghponaa.H
open Go.RowKit Go.Sort Go.Proofs.Yteoonjnmghponaa.F Go.Proofs.YteoonjnmghponaaW.PrintWords Go.Proofs.YteoonjnmghponaaW.PrintLast Go.Proofs.YteoonjnmghponaaW.PrintMore
set_option linter.unusedVariables false
set_option linter.unusedSimpArgs false
/-- The curve's number and its nearest. -/
theorem cubic_near {lo hi a c d b i n : Int} (h0 : -2147483647 ≤ lo) (h1 : hi ≤ 2147483647) (ha : lo ≤ a ∧ a ≤ hi) (hc : lo ≤ c ∧ c ≤ hi) (hd : lo ≤ d ∧ d ≤ hi) (hb : lo ≤ b ∧ b ≤ hi) (hi0 : 1 ≤ i) (hin : i ≤ n) (hn : n ≤ 16) :
    ∃ q, path_near.f 3 (a * (n - i) * (n - i) * (n - i) + 3 * c * i * (n - i) * (n - i) + 3 * d * i * i * (n - i) + b * i * i * i) (n * n * n) = some q ∧ lo ≤ q ∧ q ≤ hi := by
  have hq := cubic_in (n := n) (show 0 ≤ i by omega) (show 0 ≤ n - i by omega) (by omega) ha hc hd hb
  have hm := mb (x := n) (y := n) (X := 16) (Y := 16) (by omega) hn (by omega) hn (by decide)
  have hm2 := mb (x := n * n) (y := n) (X := 256) (Y := 16) (by omega) (by omega) (by omega) hn (by decide)
  have hp : 1 * 1 ≤ n * n := Int.mul_le_mul (by omega) (by omega) (by decide) (by omega)
  have hp2 : 1 * 1 ≤ n * n * n := Int.mul_le_mul (by omega) (by omega) (by decide) (by omega)
  have hl := mb (x := lo) (y := n * n * n) (X := 2147483647) (Y := 4096) (by omega) (by omega) (by omega) (by omega) (by decide)
  have hh := mb (x := hi) (y := n * n * n) (X := 2147483647) (Y := 4096) (by omega) (by omega) (by omega) (by omega) (by decide)
  exact near_ok (by omega) (by omega) (by omega) (by omega) hq.1 hq.2 h0 h1
def cubT : Bool × List (List Nat × List Nat) := (true, [([], []), ([], []), ([], []), ([0, 1, 2], [0, 1, 2]), ([], []), ([], []), ([], []), ([4, 5, 6, 3], [4, 5, 6]), ([3, 7], [3, 7]), ([8, 7], [8]), ([], []), ([10, 9, 9, 0, 1, 2, 3, 4, 5, 6, 7, 8, 9, 10], [9, 10])])
def cubB : List Nat := [0, 0, 0, 7, 0, 0, 0, 112, 255, 511, 0, 2047]
theorem cubtab : rtab .any (opsOf Try.f54 2) = cubT := by kernel_rfl
theorem cubbits : waitsOk cubT.2 cubB = true := by kernel_rfl
set_option maxHeartbeats 2000000 in
set_option maxRecDepth 100000 in
theorem cubic_any {w W : World} {p N : Nat} {B : Bx} {v : Value} {l : List S30} {x0 y0 cx cy ex ey tx ty : Int} (h : Pn w p B N v l x0 y0 W) (hc : InS B cx cy) (he : InS B ex ey) (ht : InS B tx ty) (hB : B.Ok) (hN : N ≤ 7000000000000) (hN0 : 0 < N) :
    Calls Try.prog 54 #[.pointer (some ⟨p, 0, none⟩), .agg #[.int .i64 cx, .int .i64 cy], .agg #[.int .i64 ex, .int .i64 ey], .agg #[.int .i64 tx, .int .i64 ty]] W fun e w' => e = .returned (.tuple #[]) ∧ ∃ v' l' x' y', Pn w p B (N + 16) v' l' x' y' w' ∧ Ln p W v w' v' := by
  have HP := Aside0.mk h
  have HC := Aside0.mk hc
  have HE := Aside0.mk he
  have HT := Aside0.mk ht
  have HB := Aside0.mk hB
  have HA := Aside0.mk (h.now (by omega))
  have HN := Aside0.mk hN
  obtain ⟨d1, hd1⟩ := bend_ok x0 y0 cx cy ex ey
  obtain ⟨d2, hd2⟩ := bend_ok cx cy ex ey tx ty
  obtain ⟨dd, hdd⟩ : ∃ x, x = IntKind.i64.wrap (d1 + d2) := ⟨_, rfl⟩
  have hww : IntKind.i64.wrap (d1 + d2) = dd := hdd.symm
  obtain ⟨n, hn, hn1, hn16⟩ := parts_ok dd
  have HD1 := Aside0.mk hd1
  have HD2 := Aside0.mk hd2
  have HNn := Aside0.mk hn
  have hpl := blk_lt h.blk
  have hpn0 : ¬ p = W.heap.size := by omega
  have hpn1 : ¬ p = W.heap.size + 1 := by omega
  have hpn2 : ¬ p = W.heap.size + 1 + 1 := by omega
  have c1 : W.cell? ⟨p, 1, none⟩ = some (.int .i64 x0) := (blk_cell h.blk 1).trans rfl
  have c2 : W.cell? ⟨p, 2, none⟩ = some (.int .i64 y0) := (blk_cell h.blk 2).trans rfl
  have c31 : (((W.alloc (.cells #[.int .i64 cx, .int .i64 cy] 30)).alloc (.cells #[.int .i64 ex, .int .i64 ey] 30)).alloc (.cells #[.int .i64 tx, .int .i64 ty] 30)).cell? ⟨p, 1, none⟩ = some (.int .i64 x0) := (blk_cell (blk_alloc (blk_alloc (blk_alloc h.blk (.cells #[.int .i64 cx, .int .i64 cy] 30)) (.cells #[.int .i64 ex, .int .i64 ey] 30)) (.cells #[.int .i64 tx, .int .i64 ty] 30)) 1).trans rfl
  have c32 : (((W.alloc (.cells #[.int .i64 cx, .int .i64 cy] 30)).alloc (.cells #[.int .i64 ex, .int .i64 ey] 30)).alloc (.cells #[.int .i64 tx, .int .i64 ty] 30)).cell? ⟨p, 2, none⟩ = some (.int .i64 y0) := (blk_cell (blk_alloc (blk_alloc (blk_alloc h.blk (.cells #[.int .i64 cx, .int .i64 cy] 30)) (.cells #[.int .i64 ex, .int .i64 ey] 30)) (.cells #[.int .i64 tx, .int .i64 ty] 30)) 2).trans rfl
  clear h hc he ht hB hd1 hd2 hn hN hdd
  go_enter Try.func54, Try.ntmps54
  go_upto_region 2 with fail
  obtain ⟨A4, hA4⟩ : ∃ X, X = (((W.alloc (.cells #[.int .i64 cx, .int .i64 cy] 30)).alloc (.cells #[.int .i64 ex, .int .i64 ey] 30)).alloc (.cells #[.int .i64 tx, .int .i64 ty] 30)).alloc (.cells #[.int .i64 x0, .int .i64 y0] 30) := ⟨_, rfl⟩
  have hbA : Below W.heap.size W A4 := by
    rw [hA4]
    exact below_alloc (below_alloc (below_alloc (below_alloc (Below.refl _ _) _) _) _) _
  have b5 : A4.heap[W.heap.size]? = some (.cells #[.int .i64 cx, .int .i64 cy] 30 (0, 0)) := by
    rw [hA4]
    have := blk_alloc (blk_alloc (blk_alloc (blk_new (W) (.cells #[.int .i64 cx, .int .i64 cy] 30)) (.cells #[.int .i64 ex, .int .i64 ey] 30)) (.cells #[.int .i64 tx, .int .i64 ty] 30)) (.cells #[.int .i64 x0, .int .i64 y0] 30)
    exact this
  have b6 : A4.heap[W.heap.size + 1]? = some (.cells #[.int .i64 ex, .int .i64 ey] 30 (0, 0)) := by
    rw [hA4]
    have := blk_alloc (blk_alloc (blk_new (W.alloc (.cells #[.int .i64 cx, .int .i64 cy] 30)) (.cells #[.int .i64 ex, .int .i64 ey] 30)) (.cells #[.int .i64 tx, .int .i64 ty] 30)) (.cells #[.int .i64 x0, .int .i64 y0] 30)
    rw [World.size_alloc] at this
    exact this
  have b7 : A4.heap[W.heap.size + 1 + 1]? = some (.cells #[.int .i64 tx, .int .i64 ty] 30 (0, 0)) := by
    rw [hA4]
    have := blk_alloc (blk_new ((W.alloc (.cells #[.int .i64 cx, .int .i64 cy] 30)).alloc (.cells #[.int .i64 ex, .int .i64 ey] 30)) (.cells #[.int .i64 tx, .int .i64 ty] 30)) (.cells #[.int .i64 x0, .int .i64 y0] 30)
    rw [World.size_alloc, World.size_alloc] at this
    exact this
  have b8 : A4.heap[W.heap.size + 1 + 1 + 1]? = some (.cells #[.int .i64 x0, .int .i64 y0] 30 (0, 0)) := by
    rw [hA4]
    have := blk_new (((W.alloc (.cells #[.int .i64 cx, .int .i64 cy] 30)).alloc (.cells #[.int .i64 ex, .int .i64 ey] 30)).alloc (.cells #[.int .i64 tx, .int .i64 ty] 30)) (.cells #[.int .i64 x0, .int .i64 y0] 30)
    rw [World.size_alloc, World.size_alloc, World.size_alloc] at this
    exact this
  rw [← hA4]
  have F5 := Aside0.mk (HP.out.fr (k := W.heap.size) (by omega) b5)
  have F6 := Aside0.mk (HP.out.fr (k := W.heap.size + 1) (by omega) b6)
  have F7 := Aside0.mk (HP.out.fr (k := W.heap.size + 1 + 1) (by omega) b7)
  have F8 := Aside0.mk (HP.out.fr (k := W.heap.size + 1 + 1 + 1) (by omega) b8)
  have HPA := Aside0.mk (HP.out.below hbA)
  have LNA := Aside0.mk (Ln.below (p := p) v hbA)
  generalize W.heap.size + 1 + 1 + 1 = g8 at *
  generalize W.heap.size + 1 + 1 = g7 at *
  generalize W.heap.size + 1 = g6 at *
  obtain ⟨g5, hg5⟩ : ∃ g, g = W.heap.size := ⟨_, rfl⟩
  rw [← hg5] at b5 F5 ⊢
  have HS : Aside0 (∀ W', Below A4.heap.size A4 W' → (fun w' => w'.cell? ⟨g8, 0, none⟩ = some (.int .i64 x0) ∧ w'.cell? ⟨g8, 1, none⟩ = some (.int .i64 y0) ∧ w'.cell? ⟨g5, 0, none⟩ = some (.int .i64 cx) ∧ w'.cell? ⟨g5, 1, none⟩ = some (.int .i64 cy) ∧ w'.cell? ⟨g6, 0, none⟩ = some (.int .i64 ex) ∧ w'.cell? ⟨g6, 1, none⟩ = some (.int .i64 ey) ∧ w'.cell? ⟨g7, 0, none⟩ = some (.int .i64 tx) ∧ w'.cell? ⟨g7, 1, none⟩ = some (.int .i64 ty)) W') := ⟨fun W' hb => ⟨(blk_cell (blk_below b8 hb) 0).trans rfl, (blk_cell (blk_below b8 hb) 1).trans rfl, (blk_cell (blk_below b5 hb) 0).trans rfl, (blk_cell (blk_below b5 hb) 1).trans rfl, (blk_cell (blk_below b6 hb) 0).trans rfl, (blk_cell (blk_below b6 hb) 1).trans rfl, (blk_cell (blk_below b7 hb) 0).trans rfl, (blk_cell (blk_below b7 hb) 1).trans rfl⟩⟩
  have HBQ : Aside0 (Below A4.heap.size A4 A4.drew) := ⟨below_drew1 (Below.refl _ _)⟩
  clear hA4 hbA b5 b6 b7 b8 hg5 HP c1 c2 c31 c32 hpl hpn0 hpn1 hpn2
  go_cut [9] from 17 to 26 (fun s9 wx => ∃ g9, s9 = .pointer (some ⟨g9, 0, none⟩) ∧ Aside0 (Below A4.heap.size A4 wx) ∧ Aside0 (A4.heap.size ≤ g9) ∧ Aside0 (wx.heap[g9]? = some (.cells #[.int .i64 n] 3 (0, 0))))
  case first =>
    refine start_ (n := 12) (S := fun w' => w'.cell? ⟨g8, 0, none⟩ = some (.int .i64 x0) ∧ w'.cell? ⟨g8, 1, none⟩ = some (.int .i64 y0) ∧ w'.cell? ⟨g5, 0, none⟩ = some (.int .i64 cx) ∧ w'.cell? ⟨g5, 1, none⟩ = some (.int .i64 cy) ∧ w'.cell? ⟨g6, 0, none⟩ = some (.int .i64 ex) ∧ w'.cell? ⟨g6, 1, none⟩ = some (.int .i64 ey) ∧ w'.cell? ⟨g7, 0, none⟩ = some (.int .i64 tx) ∧ w'.cell? ⟨g7, 1, none⟩ = some (.int .i64 ty)) (ds := [11]) #[false, false, false, false, false, false, false, false, false, false, false, false] (by kernel_rfl) rfl rfl (HS.out _ HBQ.out) (fun hHeld => ?_); refine with_tabW cubtab cubbits (fun HT_ HW_ => ?_)
    generalize A4.drew = w40 at HBQ hHeld ⊢
    refine take_ (i := 0) (N := (some 17)) (v := ?_) (a' := ?_) #[true, false, false, false, false, false, false, false, false, false, false, false] rfl rfl (take_ofW HT_.out HW_.out (by kernel_rfl)) (fun _ _ _ h => h) (Or.inl ⟨by rfl, ?_⟩) hHeld ?_ ?_
    rotate_left
    · rintro w' ⟨s0, s1, s2, s3, s4, s5, s6, s7⟩
      go_simp
      with_reducible rfl
    rotate_left
    · simp only [Act.put, List.setIfInBounds_toArray, List.set_cons_zero, List.set_cons_succ, i64_w, i32_w]
      rfl
    refine take_ (i := 1) (N := (some 18)) (v := ?_) (a' := ?_) #[true, true, false, false, false, false, false, false, false, false, false, false] rfl rfl (take_ofW HT_.out HW_.out (by kernel_rfl)) (fun _ _ _ h => h) (Or.inl ⟨by rfl, ?_⟩) hHeld ?_ ?_
    rotate_left
    · rintro w' ⟨s0, s1, s2, s3, s4, s5, s6, s7⟩
      go_simp
      with_reducible rfl
    rotate_left
    · simp only [Act.put, List.setIfInBounds_toArray, List.set_cons_zero, List.set_cons_succ, i64_w, i32_w]
      rfl
    refine take_ (i := 2) (N := (some 19)) (v := ?_) (a' := ?_) #[true, true, true, false, false, false, false, false, false, false, false, false] rfl rfl (take_ofW HT_.out HW_.out (by kernel_rfl)) (fun _ _ _ h => h) (Or.inl ⟨by rfl, ?_⟩) hHeld ?_ ?_
    rotate_left
    · rintro w' ⟨s0, s1, s2, s3, s4, s5, s6, s7⟩
      go_simp
      with_reducible rfl
    rotate_left
    · simp only [Act.put, List.setIfInBounds_toArray, List.set_cons_zero, List.set_cons_succ, i64_w, i32_w]
      rfl
    refine take_ (i := 4) (N := (some 21)) (v := ?_) (a' := ?_) #[true, true, true, false, true, false, false, false, false, false, false, false] rfl rfl (take_ofW HT_.out HW_.out (by kernel_rfl)) (fun _ _ _ h => h) (Or.inl ⟨by rfl, ?_⟩) hHeld ?_ ?_
    rotate_left
    · rintro w' ⟨s0, s1, s2, s3, s4, s5, s6, s7⟩
      go_simp
      with_reducible rfl
    rotate_left
    · simp only [Act.put, List.setIfInBounds_toArray, List.set_cons_zero, List.set_cons_succ, i64_w, i32_w]
      rfl
    refine take_ (i := 5) (N := (some 22)) (v := ?_) (a' := ?_) #[true, true, true, false, true, true, false, false, false, false, false, false] rfl rfl (take_ofW HT_.out HW_.out (by kernel_rfl)) (fun _ _ _ h => h) (Or.inl ⟨by rfl, ?_⟩) hHeld ?_ ?_
    rotate_left
    · rintro w' ⟨s0, s1, s2, s3, s4, s5, s6, s7⟩
      go_simp
      with_reducible rfl
    rotate_left
    · simp only [Act.put, List.setIfInBounds_toArray, List.set_cons_zero, List.set_cons_succ, i64_w, i32_w]
      rfl
    refine take_ (i := 6) (N := (some 23)) (v := ?_) (a' := ?_) #[true, true, true, false, true, true, true, false, false, false, false, false] rfl rfl (take_ofW HT_.out HW_.out (by kernel_rfl)) (fun _ _ _ h => h) (Or.inl ⟨by rfl, ?_⟩) hHeld ?_ ?_
    rotate_left
    · rintro w' ⟨s0, s1, s2, s3, s4, s5, s6, s7⟩
      go_simp
      with_reducible rfl
    rotate_left
    · simp only [Act.put, List.setIfInBounds_toArray, List.set_cons_zero, List.set_cons_succ, i64_w, i32_w]
      rfl
    refine two_ (i := 3) (j := 10) (Ni := (some 20)) (Nj := (some 9)) #[true, true, true, true, true, true, true, false, false, false, false, false] #[true, true, true, false, true, true, true, false, false, false, true, false] rfl rfl rfl rfl (two_of HT_.out (by kernel_rfl)) (by decide) (by decide) (fun K hK => ?_) (fun K hK => ?_)
    · skip
      refine goes_ Try.func98 (by kernel_rfl) rfl #[.agg #[.int .i64 x0, .int .i64 y0], .agg #[.int .i64 cx, .int .i64 cy], .agg #[.int .i64 ex, .int .i64 ey]] (by rfl) rfl rfl (by (try simp only [List.map_toArray, List.map_cons, List.map_nil]); first | done | rfl) ?_
      with_reducible refine Calls.mono (path_bend.calls _ _ _ _ _ _ _ _ HD1.out) ?_
      rintro e w3_ ⟨rfl, hb⟩
      refine ⟨_, rfl, ?_⟩
      have n0 := Aside0.mk (below_then HBQ.out HBQ.out.size hb)
      clear HBQ hb
      have HBQ := n0
      clear n0
      refine hK.out _ _ (HS.out _ HBQ.out) (fun hHeld => ?_)
      clear hK K
      refine norm_ (a' := ?_) ?_ ?_
      rotate_left
      · show Act.put _ (some 20) _ = _
        simp only [Act.put, List.setIfInBounds_toArray, List.set_cons_zero, List.set_cons_succ, i64_w, i32_w]
        rfl
      refine two_ (i := 7) (j := 10) (Ni := (some 24)) (Nj := (some 9)) #[true, true, true, true, true, true, true, true, false, false, false, false] #[true, true, true, true, true, true, true, false, false, false, true, false] rfl rfl rfl rfl (two_of HT_.out (by kernel_rfl)) (by decide) (by decide) (fun K hK => ?_) (fun K hK => ?_)
      · skip
        refine goes_ Try.func98 (by kernel_rfl) rfl #[.agg #[.int .i64 cx, .int .i64 cy], .agg #[.int .i64 ex, .int .i64 ey], .agg #[.int .i64 tx, .int .i64 ty]] (by rfl) rfl rfl (by (try simp only [List.map_toArray, List.map_cons, List.map_nil]); first | done | rfl) ?_
        with_reducible refine Calls.mono (path_bend.calls _ _ _ _ _ _ _ _ HD2.out) ?_
        rintro e w7_ ⟨rfl, hb⟩
        refine ⟨_, rfl, ?_⟩
        have n0 := Aside0.mk (below_then HBQ.out HBQ.out.size hb)
        clear HBQ hb
        have HBQ := n0
        clear n0
        refine hK.out _ _ (HS.out _ HBQ.out) (fun hHeld => ?_)
        clear hK K
        refine norm_ (a' := ?_) ?_ ?_
        rotate_left
        · show Act.put _ (some 24) _ = _
          simp only [Act.put, List.setIfInBounds_toArray, List.set_cons_zero, List.set_cons_succ, i64_w, i32_w]
          rfl
        refine pure_ (i := 8) (N := (some 25)) (v := ?_) (a' := ?_) #[true, true, true, true, true, true, true, true, true, false, false, false] rfl rfl (any_of HT_.out (by kernel_rfl)) (fun _ _ _ h => h) (Or.inl ⟨by rfl, ?_⟩) ?_ ?_
        rotate_left
        · intro w'
          go_simp
          with_reducible rfl
        rotate_left
        · simp only [Act.put, List.setIfInBounds_toArray, List.set_cons_zero, List.set_cons_succ, i64_w, i32_w]
          rfl
        refine two_ (i := 9) (j := 10) (Ni := (some 26)) (Nj := (some 9)) #[true, true, true, true, true, true, true, true, true, true, false, false] #[true, true, true, true, true, true, true, true, true, false, true, false] rfl rfl rfl rfl (two_of HT_.out (by kernel_rfl)) (by decide) (by decide) (fun K hK => ?_) (fun K hK => ?_)
        · skip
          refine goes_ Try.func97 (by kernel_rfl) rfl #[.int .i64 dd] (by rfl) rfl rfl (by (try simp only [List.map_toArray, List.map_cons, List.map_nil]); first | done | rfl) ?_
          with_reducible refine Calls.mono (path_parts.calls 6 _ _ _ HNn.out) ?_
          rintro e w9_ ⟨rfl, hdr⟩
          refine ⟨_, rfl, ?_⟩
          have hb : Below w7_.heap.size w7_ w9_ := (by obtain ⟨m, rfl⟩ := hdr; exact pw_below_drewN (Below.refl _ _) m)
          clear hdr
          have n0 := Aside0.mk (below_then HBQ.out HBQ.out.size hb)
          clear HBQ hb
          have HBQ := n0
          clear n0
          refine hK.out _ _ (HS.out _ HBQ.out) (fun hHeld => ?_)
          clear hK K
          refine norm_ (a' := ?_) ?_ ?_
          rotate_left
          · show Act.put _ (some 26) _ = _
            simp only [Act.put, List.setIfInBounds_toArray, List.set_cons_zero, List.set_cons_succ, i64_w, i32_w]
            rfl
          refine one_ (i := 10) (N := (some 9)) #[true, true, true, true, true, true, true, true, true, true, true, false] rfl rfl (one_of HT_.out (by kernel_rfl)) (by decide) (fun K hK => ?_)
          refine value_ (w1 := ?_) (v := ?_) (by rfl) rfl ?_ ?_
          rotate_left 2
          · go_simp
            constructor
            · rfl
            · rfl
          have KB := Aside0.mk (blk_new w9_ (.cells #[.int .i64 0] 3))
          have GB := Aside0.mk HBQ.out.size
          have n0 := Aside0.mk (below_alloc HBQ.out (.cells #[.int .i64 0] 3))
          clear HBQ
          have HBQ := n0
          clear n0
          refine hK.out _ _ (HS.out _ HBQ.out) (fun hHeld => ?_)
          clear hK K
          refine norm_ (a' := ?_) ?_ ?_
          rotate_left
          · show Act.put _ (some 9) _ = _
            simp only [Act.put, List.setIfInBounds_toArray, List.set_cons_zero, List.set_cons_succ, i64_w, i32_w]
            rfl
          generalize w9_.alloc (.cells #[.int .i64 0] 3) = wa_ at *
          generalize w9_.heap.size = g9 at *
          refine last_ (i := 11) (N := none) #[true, true, true, true, true, true, true, true, true, true, true, true] rfl rfl (one_of HT_.out (by kernel_rfl)) (by decide) (fun K hK => ?_)
          have c9 := (blk_cell KB.out 0).trans rfl
          have g9f := blk_frozen KB.out 0
          refine skip_ (w1 := ?_) (by rfl) rfl ?_ ?_
          rotate_left
          · go_simp
            rfl
          refine hK.out _ _ ?_
          clear hK K
          refine done_ (done_of HT_.out (by kernel_rfl)) ?_
          go_wp2_with fail
          go_meet
          exact ⟨_, rfl, ⟨HBQ.out.setCell GB.out _⟩, GB, ⟨blk_put KB.out 0 _ rfl⟩⟩
        · skip
          refine value_ (w1 := ?_) (v := ?_) (by rfl) rfl ?_ ?_
          rotate_left 2
          · go_simp
            constructor
            · rfl
            · rfl
          have KB := Aside0.mk (blk_new w7_ (.cells #[.int .i64 0] 3))
          have GB := Aside0.mk HBQ.out.size
          have n0 := Aside0.mk (below_alloc HBQ.out (.cells #[.int .i64 0] 3))
          clear HBQ
          have HBQ := n0
          clear n0
          refine hK.out _ _ (HS.out _ HBQ.out) (fun hHeld => ?_)
          clear hK K
          refine norm_ (a' := ?_) ?_ ?_
          rotate_left
          · show Act.put _ (some 9) _ = _
            simp only [Act.put, List.setIfInBounds_toArray, List.set_cons_zero, List.set_cons_succ, i64_w, i32_w]
            rfl
          generalize w7_.alloc (.cells #[.int .i64 0] 3) = wa_ at *
          generalize w7_.heap.size = g9 at *
          refine one_ (i := 9) (N := (some 26)) #[true, true, true, true, true, true, true, true, true, true, true, false] rfl rfl (one_of HT_.out (by kernel_rfl)) (by decide) (fun K hK => ?_)
          refine goes_ Try.func97 (by kernel_rfl) rfl #[.int .i64 dd] (by rfl) rfl rfl (by (try simp only [List.map_toArray, List.map_cons, List.map_nil]); first | done | rfl) ?_
          with_reducible refine Calls.mono (path_parts.calls 6 _ _ _ HNn.out) ?_
          rintro e w9_ ⟨rfl, hdr⟩
          refine ⟨_, rfl, ?_⟩
          have hb : Below wa_.heap.size wa_ w9_ := (by obtain ⟨m, rfl⟩ := hdr; exact pw_below_drewN (Below.refl _ _) m)
          clear hdr
          have n0 := Aside0.mk (below_then HBQ.out HBQ.out.size hb)
          have n1 := Aside0.mk (blk_below KB.out hb)
          clear KB
          have KB := n1
          clear n1
          clear HBQ hb
          have HBQ := n0
          clear n0
          refine hK.out _ _ (HS.out _ HBQ.out) (fun hHeld => ?_)
          clear hK K
          refine norm_ (a' := ?_) ?_ ?_
          rotate_left
          · show Act.put _ (some 26) _ = _
            simp only [Act.put, List.setIfInBounds_toArray, List.set_cons_zero, List.set_cons_succ, i64_w, i32_w]
            rfl
          refine last_ (i := 11) (N := none) #[true, true, true, true, true, true, true, true, true, true, true, true] rfl rfl (one_of HT_.out (by kernel_rfl)) (by decide) (fun K hK => ?_)
          have c9 := (blk_cell KB.out 0).trans rfl
          have g9f := blk_frozen KB.out 0
          refine skip_ (w1 := ?_) (by rfl) rfl ?_ ?_
          rotate_left
          · go_simp
            rfl
          refine hK.out _ _ ?_
          clear hK K
          refine done_ (done_of HT_.out (by kernel_rfl)) ?_
          go_wp2_with fail
          go_meet
          exact ⟨_, rfl, ⟨HBQ.out.setCell GB.out _⟩, GB, ⟨blk_put KB.out 0 _ rfl⟩⟩
      · skip
        refine value_ (w1 := ?_) (v := ?_) (by rfl) rfl ?_ ?_
        rotate_left 2
        · go_simp
          constructor
          · rfl
          · rfl
        have KB := Aside0.mk (blk_new w3_ (.cells #[.int .i64 0] 3))
        have GB := Aside0.mk HBQ.out.size
        have n0 := Aside0.mk (below_alloc HBQ.out (.cells #[.int .i64 0] 3))
        clear HBQ
        have HBQ := n0
        clear n0
        refine hK.out _ _ (HS.out _ HBQ.out) (fun hHeld => ?_)
        clear hK K
        refine norm_ (a' := ?_) ?_ ?_
        rotate_left
        · show Act.put _ (some 9) _ = _
          simp only [Act.put, List.setIfInBounds_toArray, List.set_cons_zero, List.set_cons_succ, i64_w, i32_w]
          rfl
        generalize w3_.alloc (.cells #[.int .i64 0] 3) = wa_ at *
        generalize w3_.heap.size = g9 at *
        refine one_ (i := 7) (N := (some 24)) #[true, true, true, true, true, true, true, true, false, false, true, false] rfl rfl (one_of HT_.out (by kernel_rfl)) (by decide) (fun K hK => ?_)
        refine goes_ Try.func98 (by kernel_rfl) rfl #[.agg #[.int .i64 cx, .int .i64 cy], .agg #[.int .i64 ex, .int .i64 ey], .agg #[.int .i64 tx, .int .i64 ty]] (by rfl) rfl rfl (by (try simp only [List.map_toArray, List.map_cons, List.map_nil]); first | done | rfl) ?_
        with_reducible refine Calls.mono (path_bend.calls _ _ _ _ _ _ _ _ HD2.out) ?_
        rintro e w7_ ⟨rfl, hb⟩
        refine ⟨_, rfl, ?_⟩
        have n0 := Aside0.mk (below_then HBQ.out HBQ.out.size hb)
        have n1 := Aside0.mk (blk_below KB.out hb)
        clear KB
        have KB := n1
        clear n1
        clear HBQ hb
        have HBQ := n0
        clear n0
        refine hK.out _ _ (HS.out _ HBQ.out) (fun hHeld => ?_)
        clear hK K
        refine norm_ (a' := ?_) ?_ ?_
        rotate_left
        · show Act.put _ (some 24) _ = _
          simp only [Act.put, List.setIfInBounds_toArray, List.set_cons_zero, List.set_cons_succ, i64_w, i32_w]
          rfl
        refine pure_ (i := 8) (N := (some 25)) (v := ?_) (a' := ?_) #[true, true, true, true, true, true, true, true, true, false, true, false] rfl rfl (any_of HT_.out (by kernel_rfl)) (fun _ _ _ h => h) (Or.inl ⟨by rfl, ?_⟩) ?_ ?_
        rotate_left
        · intro w'
          go_simp
          with_reducible rfl
        rotate_left
        · simp only [Act.put, List.setIfInBounds_toArray, List.set_cons_zero, List.set_cons_succ, i64_w, i32_w]
          rfl
        refine one_ (i := 9) (N := (some 26)) #[true, true, true, true, true, true, true, true, true, true, true, false] rfl rfl (one_of HT_.out (by kernel_rfl)) (by decide) (fun K hK => ?_)
        refine goes_ Try.func97 (by kernel_rfl) rfl #[.int .i64 dd] (by rfl) rfl rfl (by (try simp only [List.map_toArray, List.map_cons, List.map_nil]); first | done | rfl) ?_
        with_reducible refine Calls.mono (path_parts.calls 6 _ _ _ HNn.out) ?_
        rintro e w9_ ⟨rfl, hdr⟩
        refine ⟨_, rfl, ?_⟩
        have hb : Below w7_.heap.size w7_ w9_ := (by obtain ⟨m, rfl⟩ := hdr; exact pw_below_drewN (Below.refl _ _) m)
        clear hdr
        have n0 := Aside0.mk (below_then HBQ.out HBQ.out.size hb)
        have n1 := Aside0.mk (blk_below KB.out hb)
        clear KB
        have KB := n1
        clear n1
        clear HBQ hb
        have HBQ := n0
        clear n0
        refine hK.out _ _ (HS.out _ HBQ.out) (fun hHeld => ?_)
        clear hK K
        refine norm_ (a' := ?_) ?_ ?_
        rotate_left
        · show Act.put _ (some 26) _ = _
          simp only [Act.put, List.setIfInBounds_toArray, List.set_cons_zero, List.set_cons_succ, i64_w, i32_w]
          rfl
        refine last_ (i := 11) (N := none) #[true, true, true, true, true, true, true, true, true, true, true, true] rfl rfl (one_of HT_.out (by kernel_rfl)) (by decide) (fun K hK => ?_)
        have c9 := (blk_cell KB.out 0).trans rfl
        have g9f := blk_frozen KB.out 0
        refine skip_ (w1 := ?_) (by rfl) rfl ?_ ?_
        rotate_left
        · go_simp
          rfl
        refine hK.out _ _ ?_
        clear hK K
        refine done_ (done_of HT_.out (by kernel_rfl)) ?_
        go_wp2_with fail
        go_meet
        exact ⟨_, rfl, ⟨HBQ.out.setCell GB.out _⟩, GB, ⟨blk_put KB.out 0 _ rfl⟩⟩
    · skip
      refine value_ (w1 := ?_) (v := ?_) (by rfl) rfl ?_ ?_
      rotate_left 2
      · go_simp
        constructor
        · rfl
        · rfl
      have KB := Aside0.mk (blk_new w40 (.cells #[.int .i64 0] 3))
      have GB := Aside0.mk HBQ.out.size
      have n0 := Aside0.mk (below_alloc HBQ.out (.cells #[.int .i64 0] 3))
      clear HBQ
      have HBQ := n0
      clear n0
      refine hK.out _ _ (HS.out _ HBQ.out) (fun hHeld => ?_)
      clear hK K
      refine norm_ (a' := ?_) ?_ ?_
      rotate_left
      · show Act.put _ (some 9) _ = _
        simp only [Act.put, List.setIfInBounds_toArray, List.set_cons_zero, List.set_cons_succ, i64_w, i32_w]
        rfl
      generalize w40.alloc (.cells #[.int .i64 0] 3) = wa_ at *
      generalize w40.heap.size = g9 at *
      refine one_ (i := 3) (N := (some 20)) #[true, true, true, true, true, true, true, false, false, false, true, false] rfl rfl (one_of HT_.out (by kernel_rfl)) (by decide) (fun K hK => ?_)
      refine goes_ Try.func98 (by kernel_rfl) rfl #[.agg #[.int .i64 x0, .int .i64 y0], .agg #[.int .i64 cx, .int .i64 cy], .agg #[.int .i64 ex, .int .i64 ey]] (by rfl) rfl rfl (by (try simp only [List.map_toArray, List.map_cons, List.map_nil]); first | done | rfl) ?_
      with_reducible refine Calls.mono (path_bend.calls _ _ _ _ _ _ _ _ HD1.out) ?_
      rintro e w3_ ⟨rfl, hb⟩
      refine ⟨_, rfl, ?_⟩
      have n0 := Aside0.mk (below_then HBQ.out HBQ.out.size hb)
      have n1 := Aside0.mk (blk_below KB.out hb)
      clear KB
      have KB := n1
      clear n1
      clear HBQ hb
      have HBQ := n0
      clear n0
      refine hK.out _ _ (HS.out _ HBQ.out) (fun hHeld => ?_)
      clear hK K
      refine norm_ (a' := ?_) ?_ ?_
      rotate_left
      · show Act.put _ (some 20) _ = _
        simp only [Act.put, List.setIfInBounds_toArray, List.set_cons_zero, List.set_cons_succ, i64_w, i32_w]
        rfl
      refine one_ (i := 7) (N := (some 24)) #[true, true, true, true, true, true, true, true, false, false, true, false] rfl rfl (one_of HT_.out (by kernel_rfl)) (by decide) (fun K hK => ?_)
      refine goes_ Try.func98 (by kernel_rfl) rfl #[.agg #[.int .i64 cx, .int .i64 cy], .agg #[.int .i64 ex, .int .i64 ey], .agg #[.int .i64 tx, .int .i64 ty]] (by rfl) rfl rfl (by (try simp only [List.map_toArray, List.map_cons, List.map_nil]); first | done | rfl) ?_
      with_reducible refine Calls.mono (path_bend.calls _ _ _ _ _ _ _ _ HD2.out) ?_
      rintro e w7_ ⟨rfl, hb⟩
      refine ⟨_, rfl, ?_⟩
      have n0 := Aside0.mk (below_then HBQ.out HBQ.out.size hb)
      have n1 := Aside0.mk (blk_below KB.out hb)
      clear KB
      have KB := n1
      clear n1
      clear HBQ hb
      have HBQ := n0
      clear n0
      refine hK.out _ _ (HS.out _ HBQ.out) (fun hHeld => ?_)
      clear hK K
      refine norm_ (a' := ?_) ?_ ?_
      rotate_left
      · show Act.put _ (some 24) _ = _
        simp only [Act.put, List.setIfInBounds_toArray, List.set_cons_zero, List.set_cons_succ, i64_w, i32_w]
        rfl
      refine pure_ (i := 8) (N := (some 25)) (v := ?_) (a' := ?_) #[true, true, true, true, true, true, true, true, true, false, true, false] rfl rfl (any_of HT_.out (by kernel_rfl)) (fun _ _ _ h => h) (Or.inl ⟨by rfl, ?_⟩) ?_ ?_
      rotate_left
      · intro w'
        go_simp
        with_reducible rfl
      rotate_left
      · simp only [Act.put, List.setIfInBounds_toArray, List.set_cons_zero, List.set_cons_succ, i64_w, i32_w]
        rfl
      refine one_ (i := 9) (N := (some 26)) #[true, true, true, true, true, true, true, true, true, true, true, false] rfl rfl (one_of HT_.out (by kernel_rfl)) (by decide) (fun K hK => ?_)
      refine goes_ Try.func97 (by kernel_rfl) rfl #[.int .i64 dd] (by rfl) rfl rfl (by (try simp only [List.map_toArray, List.map_cons, List.map_nil]); first | done | rfl) ?_
      with_reducible refine Calls.mono (path_parts.calls 6 _ _ _ HNn.out) ?_
      rintro e w9_ ⟨rfl, hdr⟩
      refine ⟨_, rfl, ?_⟩
      have hb : Below w7_.heap.size w7_ w9_ := (by obtain ⟨m, rfl⟩ := hdr; exact pw_below_drewN (Below.refl _ _) m)
      clear hdr
      have n0 := Aside0.mk (below_then HBQ.out HBQ.out.size hb)
      have n1 := Aside0.mk (blk_below KB.out hb)
      clear KB
      have KB := n1
      clear n1
      clear HBQ hb
      have HBQ := n0
      clear n0
      refine hK.out _ _ (HS.out _ HBQ.out) (fun hHeld => ?_)
      clear hK K
      refine norm_ (a' := ?_) ?_ ?_
      rotate_left
      · show Act.put _ (some 26) _ = _
        simp only [Act.put, List.setIfInBounds_toArray, List.set_cons_zero, List.set_cons_succ, i64_w, i32_w]
        rfl
      refine last_ (i := 11) (N := none) #[true, true, true, true, true, true, true, true, true, true, true, true] rfl rfl (one_of HT_.out (by kernel_rfl)) (by decide) (fun K hK => ?_)
      have c9 := (blk_cell KB.out 0).trans rfl
      have g9f := blk_frozen KB.out 0
      refine skip_ (w1 := ?_) (by rfl) rfl ?_ ?_
      rotate_left
      · go_simp
        rfl
      refine hK.out _ _ ?_
      clear hK K
      refine done_ (done_of HT_.out (by kernel_rfl)) ?_
      go_wp2_with fail
      go_meet
      exact ⟨_, rfl, ⟨HBQ.out.setCell GB.out _⟩, GB, ⟨blk_put KB.out 0 _ rfl⟩⟩
  case rest =>
    clear HBQ
    obtain ⟨g9, rfl, HBQ, GB, KB⟩ := hcut
    have hb10 : Below A4.heap.size A4 (wc.alloc (.cells #[.int .i64 1] 3)) := below_alloc HBQ.out _
    have b10 := blk_new wc (.cells #[.int .i64 1] 3)
    have L10 := Aside0.mk (Ln.below (p := p) v hb10)
    have F9 := Aside0.mk (HPA.out.fr GB.out (blk_alloc KB.out (.cells #[.int .i64 1] 3)))
    have F10 := Aside0.mk (HPA.out.fr HBQ.out.size b10)
    have HPB : Aside0 (Pn w p B (N + ((1 : Int) - 1).toNat) v l x0 y0 (wc.alloc (.cells #[.int .i64 1] 3))) := ⟨HPA.out.below hb10⟩
    have FF : Aside0 (Fr p v _ g5 _ _ ∧ Fr p v _ g6 _ _ ∧ Fr p v _ g7 _ _ ∧ Fr p v _ g8 _ _ ∧ Fr p v _ _ _ _ ∧ Fr p v _ _ _ _) := ⟨F5.out.step L10.out, F6.out.step L10.out, F7.out.step L10.out, F8.out.step L10.out, F9.out, F10.out⟩
    have LNB := Aside0.mk (LNA.out.trans L10.out)
    clear F5 F6 F7 F8 F9 F10 hb10 b10 HBQ GB KB HPA LNA L10 HD1 HD2 HNn HS hww
    go_wp2
    generalize wc.alloc (.cells #[.int .i64 1] 3) = w3 at *
    generalize wc.heap.size = g10 at *
    go_loopg [10, 11, 12] n.toNat (fun kx s10 s11 s12 wr => ∃ (gi : Nat) (i : Int) (v' : Value) (l' : List S30) (x' y' : Int), s10 = .pointer (some ⟨gi, 0, none⟩) ∧ 1 ≤ i ∧ i ≤ n + 1 ∧ (n + 1 - i).toNat ≤ kx ∧ Aside0 (Pn w p B (N + (i - 1).toNat) v' l' x' y' wr) ∧ Aside0 (Ln p W v wr v') ∧ Aside0 (Fr p v' wr g5 #[.int .i64 cx, .int .i64 cy] 30 ∧ Fr p v' wr g6 #[.int .i64 ex, .int .i64 ey] 30 ∧ Fr p v' wr g7 #[.int .i64 tx, .int .i64 ty] 30 ∧ Fr p v' wr g8 #[.int .i64 x0, .int .i64 y0] 30 ∧ Fr p v' wr g9 #[.int .i64 n] 3 ∧ Fr p v' wr gi #[.int .i64 i] 3))
    case atStart => exact ⟨g10, 1, v, l, x0, y0, rfl, by omega, by omega, by omega, HPB, LNB, FF⟩
    case round =>
      clear HPB LNB FF
      obtain ⟨gi, i, v1, l1, x1, y1, rfl, hi1, hin, hkx, HP, HL, HF⟩ := hrel
      have k7 : wr.cell? ⟨g9, 0, none⟩ = some (.int .i64 n) := (blk_cell HF.out.2.2.2.2.1.blk 0).trans rfl
      have k8 : wr.cell? ⟨gi, 0, none⟩ = some (.int .i64 i) := (blk_cell HF.out.2.2.2.2.2.blk 0).trans rfl
      by_cases hle : i ≤ n
      · have hw : IntKind.i64.wrap (n - i) = n - i := IntWalk.i64_in _ (by omega)
        obtain ⟨q1, hq1, a1, a2⟩ := cubic_near HB.out.a HB.out.c ⟨HA.out.1, HA.out.2.1⟩ ⟨HC.out.1, HC.out.2.1⟩ ⟨HE.out.1, HE.out.2.1⟩ ⟨HT.out.1, HT.out.2.1⟩ hi1 hle hn16
        obtain ⟨q2, hq2, a3, a4⟩ := cubic_near HB.out.b HB.out.d ⟨HA.out.2.2.1, HA.out.2.2.2⟩ ⟨HC.out.2.2.1, HC.out.2.2.2⟩ ⟨HE.out.2.2.1, HE.out.2.2.2⟩ ⟨HT.out.2.2.1, HT.out.2.2.2⟩ hi1 hle hn16
        have HIN : Aside0 (InS B q1 q2) := ⟨⟨a1, a2, a3, a4⟩⟩
        have HQ1 := Aside0.mk hq1
        have HQ2 := Aside0.mk hq2
        clear hq1 hq2 a1 a2 a3 a4
        go_upto_region 8 with fail
        have hbJ : Below wr.heap.size wr (wr.alloc (.cells #[.int .i64 (n - i)] 3)) := below_alloc (Below.refl _ _) _
        have LJ := Aside0.mk (Ln.below (p := p) v1 hbJ)
        have FJ := Aside0.mk (HP.out.fr (Nat.le_refl _) (blk_new wr (.cells #[.int .i64 (n - i)] 3)))
        have HPJ := Aside0.mk (HP.out.below hbJ)
        have HFJ := Aside0.mk (show _ ∧ _ ∧ _ ∧ _ ∧ _ ∧ _ from ⟨HF.out.1.step LJ.out, HF.out.2.1.step LJ.out, HF.out.2.2.1.step LJ.out, HF.out.2.2.2.1.step LJ.out, HF.out.2.2.2.2.1.step LJ.out, HF.out.2.2.2.2.2.step LJ.out⟩)
        have HLJ := Aside0.mk (HL.out.trans LJ.out)
        clear k7 k8 hbJ LJ HP HL HF
        generalize wr.alloc (.cells #[.int .i64 (n - i)] 3) = wj at *
        generalize wr.heap.size = gj at *
        have k8x := fun d os => cell_regrown (w := wj) (a := ⟨g8, 0, none⟩) (v := .int .i64 x0) ((blk_cell HFJ.out.2.2.2.1.blk 0).trans rfl) d os
        have k8y := fun d os => cell_regrown (w := wj) (a := ⟨g8, 1, none⟩) (v := .int .i64 y0) ((blk_cell HFJ.out.2.2.2.1.blk 1).trans rfl) d os
        have k5x := fun d os => cell_regrown (w := wj) (a := ⟨g5, 0, none⟩) (v := .int .i64 cx) ((blk_cell HFJ.out.1.blk 0).trans rfl) d os
        have k5y := fun d os => cell_regrown (w := wj) (a := ⟨g5, 1, none⟩) (v := .int .i64 cy) ((blk_cell HFJ.out.1.blk 1).trans rfl) d os
        have k6x := fun d os => cell_regrown (w := wj) (a := ⟨g6, 0, none⟩) (v := .int .i64 ex) ((blk_cell HFJ.out.2.1.blk 0).trans rfl) d os
        have k6y := fun d os => cell_regrown (w := wj) (a := ⟨g6, 1, none⟩) (v := .int .i64 ey) ((blk_cell HFJ.out.2.1.blk 1).trans rfl) d os
        have k7x := fun d os => cell_regrown (w := wj) (a := ⟨g7, 0, none⟩) (v := .int .i64 tx) ((blk_cell HFJ.out.2.2.1.blk 0).trans rfl) d os
        have k7y := fun d os => cell_regrown (w := wj) (a := ⟨g7, 1, none⟩) (v := .int .i64 ty) ((blk_cell HFJ.out.2.2.1.blk 1).trans rfl) d os
        have kj := fun d os => cell_regrown (w := wj) (a := ⟨gj, 0, none⟩) (v := .int .i64 (n - i)) ((blk_cell FJ.out.blk 0).trans rfl) d os
        have ki := fun d os => cell_regrown (w := wj) (a := ⟨gi, 0, none⟩) (v := .int .i64 i) ((blk_cell HFJ.out.2.2.2.2.2.blk 0).trans rfl) d os
        have kn := fun d os => cell_regrown (w := wj) (a := ⟨g9, 0, none⟩) (v := .int .i64 n) ((blk_cell HFJ.out.2.2.2.2.1.blk 0).trans rfl) d os
        have cQ1 := fun d os => Calls.regrown_of (cubicAt_any (kj d os) (ki d os) (kn d os) (HA.out.ok HB.out).1 (HC.out.ok HB.out).1 (HE.out.ok HB.out).1 (HT.out.ok HB.out).1 ⟨by omega, by omega⟩ ⟨by omega, by omega⟩ ⟨by omega, by omega⟩ HQ1.out)
        have cQ2 := fun d os => Calls.regrown_of (cubicAt_any (kj d os) (ki d os) (kn d os) (HA.out.ok HB.out).2 (HC.out.ok HB.out).2 (HE.out.ok HB.out).2 (HT.out.ok HB.out).2 ⟨by omega, by omega⟩ ⟨by omega, by omega⟩ ⟨by omega, by omega⟩ HQ2.out)
        have CQ1 := Aside0.mk cQ1
        have CQ2 := Aside0.mk cQ2
        clear kj ki kn cQ1 cQ2
        refine wp_region_below_tail 22 (by kernel_rfl) (by kernel_rfl) ?_
        simp only [List.take_succ_cons, List.take_zero, List.drop_succ_cons, List.drop_zero]
        repeat (quiet_step ((go_at_call 101; first | (with_reducible exact CQ1.out _ _) | (with_reducible exact CQ2.out _ _))))
        refine wpQuiet_nil ?_
        intro _ hw'
        obtain ⟨⟨dq, osq⟩, hw''⟩ := hw'
        subst hw''
        clear k8x k8y k5x k5y k6x k6y k7x k7y CQ1 CQ2
        have hbG := below_regrown wj dq osq
        have LG := Aside0.mk (Ln.below (p := p) v1 hbG)
        have HPG := Aside0.mk (HPJ.out.below hbG)
        have HFG := Aside0.mk (show _ ∧ _ ∧ _ ∧ _ ∧ _ ∧ _ from ⟨HFJ.out.1.step LG.out, HFJ.out.2.1.step LG.out, HFJ.out.2.2.1.step LG.out, HFJ.out.2.2.2.1.step LG.out, HFJ.out.2.2.2.2.1.step LG.out, HFJ.out.2.2.2.2.2.step LG.out⟩)
        have HLG := Aside0.mk (HLJ.out.trans LG.out)
        clear hbG LG HPJ HFJ HLJ FJ
        generalize grow (redrawn wj dq) osq = wk at *
        go_wp2_with (go_at_call 49; ((with_reducible refine Calls.mono (line_any HPG.out HIN.out (by have := HN.out; omega)) ?_); rintro e w5 ⟨rfl, v2, l2, hp5, hl5⟩; have HP5 := Aside0.mk hp5; have HL5 := Aside0.mk (HLG.out.trans hl5); have HF5 := Aside0.mk (show _ ∧ _ ∧ _ ∧ _ ∧ _ ∧ _ from ⟨HFG.out.1.step hl5, HFG.out.2.1.step hl5, HFG.out.2.2.1.step hl5, HFG.out.2.2.2.1.step hl5, HFG.out.2.2.2.2.1.step hl5, HFG.out.2.2.2.2.2.step hl5⟩); have k9 : w5.cell? ⟨gi, 0, none⟩ = some (.int .i64 i) := (blk_cell HF5.out.2.2.2.2.2.blk 0).trans rfl; clear hp5 hl5 HPG HLG HFG))
        have hbK : Below w5.heap.size w5 (w5.alloc (.cells #[.int .i64 (i + 1)] 3)) := below_alloc (Below.refl _ _) _
        have LK := Ln.below (p := p) v2 hbK
        have FK := HP5.out.fr (Nat.le_refl _) (blk_new w5 (.cells #[.int .i64 (i + 1)] 3))
        go_roundg (n - i).toNat
        case measure => omega
        case rel => exact ⟨w5.heap.size, i + 1, v2, l2, q1, q2, rfl, by omega, by omega, by omega, ⟨(HP5.out.below hbK).mono (by omega) (by omega)⟩, ⟨HL5.out.trans LK⟩, ⟨HF5.out.1.step LK, HF5.out.2.1.step LK, HF5.out.2.2.1.step LK, HF5.out.2.2.2.1.step LK, HF5.out.2.2.2.2.1.step LK, FK⟩⟩
      · have hle2 : ¬ i ≤ n := hle
        go_wp2
        go_end0
        exact ⟨rfl, v1, ⟨l1, x1, y1, HP.out.mono (by omega) (by omega)⟩, HL.out⟩
end Go.Proofs.Yteoonjnmghponaa.H
namespace Go.Proofs.Yteoonjnmghponaa.H
open Go.RowKit Go.Proofs.Yteoonjnmghponaa.F Go.Proofs.YteoonjnmghponaaW.PrintWords Go.Proofs.YteoonjnmghponaaW.PrintLast Go.Proofs.YteoonjnmghponaaW.PrintMore
set_option linter.unusedVariables false
set_option linter.unusedSimpArgs false
theorem middle_ok {B : Bx} {a b c x y z : Int} (hB : B.Ok) (h1 : InS B a b) (h2 : InS B x y) : ∃ p q, path_middle.f 3 a b c x y z = some (p, q) ∧ InS B p q := by
  obtain ⟨⟨a1, a2⟩, a3, a4⟩ := h1.ok hB
  obtain ⟨⟨b1, b2⟩, b3, b4⟩ := h2.ok hB
  obtain ⟨u0, u1, u2, u3⟩ := h1
  obtain ⟨v0, v1, v2, v3⟩ := h2
  have e1 : wrap64 (a + x) = a + x := by unfold wrap64; omega
  have e2 : wrap64 (b + y) = b + y := by unfold wrap64; omega
  obtain ⟨p, hp, p1, p2⟩ := near_ok (a := a + x) (b := 2) (lo := B.x0) (hi := B.x1) (by decide) (by decide) (by omega) (by omega) (by omega) (by omega) hB.a hB.c
  obtain ⟨q, hq, q1, q2⟩ := near_ok (a := b + y) (b := 2) (lo := B.y0) (hi := B.y1) (by decide) (by decide) (by omega) (by omega) (by omega) (by omega) hB.b hB.d
  exact ⟨p, q, by simp only [path_middle.f, e1, e2, hp, hq, Option.bind_some], p1, p2, q1, q2⟩
def InK (B : Bx) (s : S70) : Prop := InS B s.f0 s.f1 ∧ 1 ≤ s.f2 ∧ s.f2 ≤ 3
theorem rd_mem {l : List S70} {i : Int} (h0 : 0 ≤ i) (h1 : i < l.length) : rd_T70 l i ∈ l := by
  unfold rd_T70
  rw [List.getD_eq_getElem?_getD, List.getElem?_eq_getElem (by omega : i.toNat < l.length)]
  exact List.getElem_mem _
theorem round_ok {B : Bx} {l : List S70} (hB : B.Ok) (hl : 0 < l.length) (hn : l.length ≤ 4096) (hk : ∀ s ∈ l, InK B s) :
    ∃ k x y rs ok, path_round.f k l = some (x, y, rs, ok) ∧ InS B x y ∧ (∀ s ∈ rs, s ∈ l) ∧ rs.length ≤ l.length := by
  have hw : ∀ z : Int, -1 ≤ z → z ≤ 5000 → wrap64 z = z := fun z h0 h1 => by unfold wrap64; omega
  have main : ∀ (m : Nat) (i : Int), 0 ≤ i → i ≤ l.length → (l.length - i).toNat = m → ∃ x y rs ok, path_round.l0 (m + 4) l l l.length i = some (x, y, rs, ok) ∧ InS B x y ∧ (∀ s ∈ rs, s ∈ l) ∧ rs.length ≤ l.length := by
    intro m
    induction m with
    | zero =>
      intro i h0 h1 hm
      obtain ⟨p, q, hpq, hin⟩ := middle_ok (c := (rd_T70 l ((l.length : Int) - 1)).f2) (z := (rd_T70 l 0).f2) hB (hk _ (rd_mem (l := l) (i := (l.length : Int) - 1) (by omega) (by omega))).1 (hk _ (rd_mem (l := l) (i := 0) (by omega) (by omega))).1
      refine ⟨p, q, l, (rd_T70 l 0).f2 == 2, ?_, hin, fun s hs => hs, Nat.le_refl _⟩
      simp only [path_round.l0]
      rw [if_neg (by omega), hw ((l.length : Int) - 1) (by omega) (by omega), if_pos (by omega), if_pos (by omega), if_pos (by omega), hpq]
      rfl
    | succ m ih =>
      intro i h0 h1 hm
      simp only [path_round.l0]
      rw [if_pos (by omega), if_pos h0, if_pos (by omega)]
      by_cases c : (rd_T70 l i).f2 = 1
      · rw [if_pos c, hw (i + 1) (by omega) (by omega)]
        simp only [Option.bind_some, path_spot.f]
        rw [if_pos (by omega), if_pos (by omega), if_pos (by simp; omega), if_pos (by omega), if_pos (by simp; omega)]
        refine ⟨_, _, _, _, rfl, (hk _ (rd_mem h0 (by omega))).1, fun s hs => ?_, by simp; omega⟩
        rw [List.nil_append] at hs
        rcases List.mem_append.1 hs with h | h
        · exact List.mem_of_mem_drop h
        · exact List.mem_of_mem_take h
      · rw [if_neg c, hw (i + 1) (by omega) (by omega)]
        exact ih (i + 1) (by omega) (by omega) (by omega)
  obtain ⟨x, y, rs, ok, h1, h2⟩ := main l.length 0 (by omega) (by omega) (by omega)
  exact ⟨l.length + 4, x, y, rs, ok, h1, h2⟩
/-- A knot's kind, or 0 behind the last one. -/
def kd (rs : List S70) (j : Int) : Int := if j < rs.length then (rd_T70 rs j).f2 else 0
set_option maxHeartbeats 1000000 in
set_option maxRecDepth 100000 in
theorem kind_any {W : World} {g c : Nat} {A : Option Addr} {rs : List S70} {j : Int} (hk : W.cell? ⟨g, 0, none⟩ = some (.slice A rs.length c)) (hr : Kd.C k70 W A rs.length rs) (h0 : 0 ≤ j) (h1 : j < 1000000) (hl : rs.length ≤ 4096) :
    Calls Try.prog 50 #[.int .i64 j, .pointer (some ⟨g, 0, none⟩)] W fun e w' => e = .returned (.int .i64 (kd rs j)) ∧ w' = W := by
  unfold kd
  by_cases c1 : j < rs.length
  · rw [if_pos c1]
    obtain ⟨ad, e, k0, k1, k2⟩ := at_T70 hr j h0 c1
    subst e
    have hd : decide (j < (rs.length : Int)) = true := decide_eq_true c1
    generalize (rd_T70 rs j).f2 = z at *
    clear hr
    go_enter Try.func50, Try.ntmps50
    go_wp2
    go_ret
    exact ⟨rfl, rfl⟩
  · rw [if_neg c1]
    have hd : decide (j < (rs.length : Int)) = false := decide_eq_false c1
    clear hr
    go_enter Try.func50, Try.ntmps50
    go_wp2
    go_ret
    exact ⟨rfl, rfl⟩
/-- A row that the pen does not touch. -/
structure Rf (w : World) (p : Nat) (v : Value) (W : World) (u : Value) (rs : List S70) : Prop where
  row : Kd.R k70 70 W w.heap.size (fun k => k ≠ p ∧ some k ≠ v.ownBlock) u rs
theorem Rf.step {w : World} {p : Nat} {v v' u : Value} {W W' : World} {rs : List S70} (h : Rf w p v W u rs) (l : Ln p W v W' v') : Rf w p v' W' u rs := by
  have h1 := Kd.R_step (Kd.R_bound h.row) (fun k hk hlt => l.fx k hlt hk.1.1 hk.1.2)
  exact ⟨Kd.R_mono h1 (fun k hk => ⟨hk.1.1, fun e => by
    rcases l.ow with e1 | ⟨b, e1, e2⟩
    · exact hk.1.2 (by rw [e, e1])
    · rw [e1] at e
      injection e with e
      have := hk.2.2
      omega⟩)⟩
end Go.Proofs.Yteoonjnmghponaa.H
