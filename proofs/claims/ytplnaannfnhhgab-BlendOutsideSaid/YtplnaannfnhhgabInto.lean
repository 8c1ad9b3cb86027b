/- blend.Into, walked: a mask laid pixel by pixel on a row of the caller's own. -/
import Derived.Test.YtplnaannfnhhgabDx1
import Derived.Test.YtplnaannfnhhgabMix0
namespace Go.Proofs.Ytplnaannfnhhgab.D
open Go.RowKit Go.Proofs.YtplnaannfnhhgabW.PrintWords Go.Proofs.YtplnaannfnhhgabW.PrintLast Go.Proofs.YtplnaannfnhhgabW.PrintMore Go.Proofs.Ytplnaannfnhhgab.F
attribute [local go_sem] max2_int min2_int max_two min_two max_three min_three max_four min_four
set_option linter.unusedVariables false
set_option linter.unusedSimpArgs false

/-- d rounds from i on. -/
def iter (f : Int → List Int → List Int) : Nat → Int → List Int → List Int
  | 0, _, q => q
  | d + 1, i, q => iter f d (i + 1) (f i q)
def mixv (a b c : Int) : Int := (blend_Mix.f a b c).getD 0
theorem mixv_some (a b c : Int) : blend_Mix.f a b c = some (mixv a b c) := rfl
/-- One pixel. -/
def px (W MW x y ink : Int) (ml : List Int) (j i : Int) (q : List Int) : List Int := q.set ((y + j) * W + x + i).toNat (mixv (rd q ((y + j) * W + x + i)) ink (rd ml (j * MW + i)))
theorem px_length (W MW x y ink : Int) (ml : List Int) (j i : Int) (q : List Int) : (px W MW x y ink ml j i q).length = q.length := List.length_set
theorem iter_length {f : Int → List Int → List Int} (hf : ∀ i q, (f i q).length = q.length) : ∀ (d : Nat) (i : Int) (q : List Int), (iter f d i q).length = q.length
  | 0, _, _ => rfl
  | d + 1, i, q => by rw [iter, iter_length hf d, hf]
theorem near_some (a b : Int) : ∃ n v, blend_near.f a b = some (n, v) ∧ n = wrap64 (a + b) ∧ (v = true → -1099511627776 ≤ n ∧ n ≤ 1099511627776) := by
  unfold blend_near.f
  repeat' split
  all_goals exact ⟨_, _, rfl, rfl, fun h => by first | exact absurd h Bool.false_ne_true | (have := of_decide_eq_true h; omega)⟩
theorem part_some (a n m : Int) : blend_part.f a n m = some (mx 0 (wrap64 (-a)), mn n (wrap64 (m - a))) := rfl

structure IntoW (w0 ws : World) (g5 g6 g c0 : Nat) (W H X Y MW MH : Int) (MA : Option Addr) (MC n m : Nat) (ok : Nat → Prop) (q : List Int) (W' : World) : Prop where
  b5 : W'.heap[g5]? = some (.cells #[.int .i64 W, .int .i64 H, .slice (some ⟨g, 0, none⟩) n c0] 32 (0, 0))
  b6 : W'.heap[g6]? = some (.cells #[.int .i64 X, .int .i64 Y, .int .i64 MW, .int .i64 MH, .slice MA m MC] 34 (0, 0))
  row : Kd.R (Kd.int .u8) 5 W' w0.heap.size ok (.slice (some ⟨g, 0, none⟩) q.length c0) q
  len : q.length = n
  ne5 : g5 ≠ g
  ne6 : g6 ≠ g
  ge : w0.heap.size ≤ g
  bel : Below w0.heap.size w0 W'
  keep : KeepBut ws W' g none
section
variable {w0 ws W' : World} {g5 g6 g c0 : Nat} {W H X Y MW MH : Int} {MA : Option Addr} {MC n m : Nat} {ok : Nat → Prop} {q : List Int}
theorem IntoW.drewN (h : IntoW w0 ws g5 g6 g c0 W H X Y MW MH MA MC n m ok q W') (k : Nat) : IntoW w0 ws g5 g6 g c0 W H X Y MW MH MA MC n m ok q (W'.drewN k) :=
  ⟨blk_drewN h.b5 k, blk_drewN h.b6 k, Kd.R_drewN h.row k, h.len, h.ne5, h.ne6, h.ge, pw_below_drewN h.bel k, h.keep.trans (KeepBut.of_below (pw_below_drewN (Below.refl _ _) k) g none) (.inl rfl)⟩
theorem IntoW.drew (h : IntoW w0 ws g5 g6 g c0 W H X Y MW MH MA MC n m ok q W') : IntoW w0 ws g5 g6 g c0 W H X Y MW MH MA MC n m ok q W'.drew :=
  ⟨blk_drew h.b5, blk_drew h.b6, Kd.R_drew h.row, h.len, h.ne5, h.ne6, h.ge, h.bel.drew, h.keep.trans (KeepBut.of_below (Below.refl _ _).drew g none) (.inl rfl)⟩
theorem IntoW.below (h : IntoW w0 ws g5 g6 g c0 W H X Y MW MH MA MC n m ok q W') {W2 : World} (hb : Below W'.heap.size W' W2) : IntoW w0 ws g5 g6 g c0 W H X Y MW MH MA MC n m ok q W2 :=
  ⟨blk_below h.b5 hb, blk_below h.b6 hb, Kd.R_below h.row hb, h.len, h.ne5, h.ne6, h.ge, below_step h.bel hb, h.keep.trans (KeepBut.of_below hb g none) (.inl rfl)⟩
theorem IntoW.set (h : IntoW w0 ws g5 g6 g c0 W H X Y MW MH MA MC n m ok q W') (k : Int) (v : Int) : IntoW w0 ws g5 g6 g c0 W H X Y MW MH MA MC n m ok (q.set k.toNat v) (W'.setCell ⟨g, k.toNat, none⟩ (.int .u8 v)) := by
  refine ⟨blk_far h.b5 h.ne5 _, blk_far h.b6 h.ne6 _, ?_, by rw [List.length_set]; exact h.len, h.ne5, h.ne6, h.ge, h.bel.setCell h.ge _, h.keep.set_ _ _⟩
  have := (Kd.R_put (enc := Value.int .u8) (h1 := fun _ => rfl) h.row k v).1
  rw [List.length_set]
  exact this
theorem IntoW.at_ (h : IntoW w0 ws g5 g6 g c0 W H X Y MW MH MA MC n m ok q W') (k : Int) (h0 : 0 ≤ k) (h1 : k < n) : W'.cell? ⟨g, k.toNat, none⟩ = some (.int .u8 (rd q k)) ∧ W'.frozen? ⟨g, k.toNat, none⟩ = false := by
  have := Kd.R_cell (enc := Value.int .u8) (h1 := fun _ => rfl) (0 : Int) h.row k h0 (by rw [h.len]; exact h1)
  exact this
end
theorem px_ok {W H x y MW MH i j : Int} {n m : Nat} (hW : 1 ≤ W ∧ W ≤ 1024) (hH : 1 ≤ H ∧ H ≤ 1024) (hq : (n : Int) = W * H) (hk : 0 ≤ MW ∧ 0 ≤ MH ∧ (m : Int) = MW * MH) (hm : m ≤ 9223372036854775807)
    (hx : -1099511627776 ≤ x ∧ x ≤ 1099511627776) (hy : -1099511627776 ≤ y ∧ y ≤ 1099511627776) (hi : mx 0 (wrap64 (-x)) ≤ i ∧ i < mn MW (wrap64 (W - x))) (hj : mx 0 (wrap64 (-y)) ≤ j ∧ j < mn MH (wrap64 (H - y))) :
    (IntKind.i64.wrap (y + j) = y + j ∧ IntKind.i64.wrap ((y + j) * W) = (y + j) * W ∧ IntKind.i64.wrap ((y + j) * W + x) = (y + j) * W + x ∧ IntKind.i64.wrap ((y + j) * W + x + i) = (y + j) * W + x + i) ∧
    (IntKind.i64.wrap (j * MW) = j * MW ∧ IntKind.i64.wrap (j * MW + i) = j * MW + i ∧ IntKind.i64.wrap (i + 1) = i + 1 ∧ IntKind.i64.wrap (j + 1) = j + 1) ∧
    (0 ≤ (y + j) * W + x + i ∧ (y + j) * W + x + i < n) ∧ (0 ≤ j * MW + i ∧ j * MW + i < m) := by
  have w1 : wrap64 (-x) = -x := w64 (by omega) (by omega)
  have w2 : wrap64 (W - x) = W - x := w64 (by omega) (by omega)
  have w3 : wrap64 (-y) = -y := w64 (by omega) (by omega)
  have w4 : wrap64 (H - y) = H - y := w64 (by omega) (by omega)
  rw [w1, w2] at hi
  rw [w3, w4] at hj
  have a0 : 0 ≤ i ∧ 0 ≤ x + i ∧ i < MW ∧ x + i < W := by
    unfold mx mn at hi
    split at hi <;> split at hi <;> omega
  have b0 : 0 ≤ j ∧ 0 ≤ y + j ∧ j < MH ∧ y + j < H := by
    unfold mx mn at hj
    split at hj <;> split at hj <;> omega
  have p0 : 0 ≤ (y + j) * W := Int.mul_nonneg b0.2.1 (by omega)
  have p1 : (y + j) * W ≤ (H - 1) * W := Int.mul_le_mul_of_nonneg_right (by omega) (by omega)
  have p2 : (H - 1) * W = W * H - W := by rw [Int.sub_mul, Int.one_mul, Int.mul_comm]
  have p3 : W * H ≤ 1048576 := by
    have := Int.mul_le_mul hW.2 hH.2 (by omega) (by omega)
    omega
  have m0 : 0 ≤ j * MW := Int.mul_nonneg b0.1 (by omega)
  have m1 : j * MW ≤ (MH - 1) * MW := Int.mul_le_mul_of_nonneg_right (by omega) (by omega)
  have m2 : (MH - 1) * MW = MW * MH - MW := by rw [Int.sub_mul, Int.one_mul, Int.mul_comm]
  have mb : (m : Int) ≤ 9223372036854775807 := by omega
  simp only [IntKind.wrap_i64]
  have hk3 := hk.2.2
  refine ⟨⟨by omega, by omega, by omega, by omega⟩, ⟨by omega, by omega, by omega, by omega⟩, ⟨by omega, by omega⟩, ⟨by omega, by omega⟩⟩
theorem j_ok {MH H y j : Int} (h0 : mx 0 (wrap64 (-y)) ≤ j) (h1 : j < mn MH (wrap64 (H - y))) : IntKind.i64.wrap (j + 1) = j + 1 := by
  have a0 : 0 ≤ mx 0 (wrap64 (-y)) := by unfold mx; split <;> omega
  have a1 : mn MH (wrap64 (H - y)) ≤ 9223372036854775807 := by
    have : wrap64 (H - y) ≤ 9223372036854775807 := by unfold wrap64; omega
    unfold mn
    split <;> omega
  rw [IntKind.wrap_i64]
  omega
/-- The whole: what the laid mask leaves. -/
def into (W H : Int) (q : List Int) (X Y MW MH : Int) (ml : List Int) (dx dy ink : Int) : List Int :=
  match blend_near.f X dx, blend_near.f Y dy with
  | some (x, true), some (y, true) =>
    iter (fun j q => iter (px W MW x y ink ml j) (mn MW (wrap64 (W - x)) - mx 0 (wrap64 (-x))).toNat (mx 0 (wrap64 (-x))) q) (mn MH (wrap64 (H - y)) - mx 0 (wrap64 (-y))).toNat (mx 0 (wrap64 (-y))) q
  | _, _ => q
set_option maxRecDepth 100000 in
set_option maxHeartbeats 8000000 in
theorem blend_Into.calls (W H : Int) (g c0 : Nat) (q : List Int) (X Y MW MH : Int) (MA : Option Addr) (MC : Nat) (ml : List Int) (dx dy ink : Int) (w0 w : World) (ok : Nat → Prop)
    (hB : Below w0.heap.size w0 w) (HO : Kd.R (Kd.int .u8) 5 w w0.heap.size ok (.slice (some ⟨g, 0, none⟩) q.length c0) q)
    (hm : Kd.C (Kd.int .u8) w0 MA ml.length ml) (hW : 1 ≤ W ∧ W ≤ 1024) (hH : 1 ≤ H ∧ H ≤ 1024) (hq : (q.length : Int) = W * H) (hk : 0 ≤ MW ∧ 0 ≤ MH ∧ (ml.length : Int) = MW * MH) :
    Calls Try.prog 51 #[.agg #[.int .i64 W, .int .i64 H, .slice (some ⟨g, 0, none⟩) q.length c0], .agg #[.int .i64 X, .int .i64 Y, .int .i64 MW, .int .i64 MH, .slice MA ml.length MC], .int .i64 dx, .int .i64 dy, .int .u8 ink] w
      fun e w' => e = .returned (.tuple #[]) ∧ Kd.R (Kd.int .u8) 5 w' w0.heap.size ok (.slice (some ⟨g, 0, none⟩) q.length c0) (into W H q X Y MW MH ml dx dy ink) ∧ Below w0.heap.size w0 w' ∧ KeepBut w w' g none := by
  obtain ⟨x, hx, ex, exv, exb⟩ := near_some X dx
  obtain ⟨y, hy, ey, eyv, eyb⟩ := near_some Y dy
  have AX := Aside0.mk ex
  have AY := Aside0.mk ey
  have HB := Aside0.mk hB
  have HR := Aside0.mk HO
  have HG := Aside0.mk (show w0.heap.size ≤ g from Kd.R_base HO g (by simp [Value.ownBlock]))
  have HL := Aside0.mk (show g < w.heap.size from Kd.R_lt HO g (by simp [Value.ownBlock]))
  have AM := Aside0.mk hm
  have AK := Aside0.mk hk
  have AQ := Aside0.mk hq
  have AW := Aside0.mk hW
  have AH := Aside0.mk hH
  have AXB := Aside0.mk exb
  have AYB := Aside0.mk eyb
  clear hB HO hm hk hq hW hH exb eyb exv eyv ex ey
  cases hx with
  | false =>
    have hr : into W H q X Y MW MH ml dx dy ink = q := by unfold into; rw [AX.out]
    rw [hr]
    go_enter Try.func51, Try.ntmps51
    go_wp2_with (first | ((with_reducible refine gate_dst (N := 5) rfl ?_); refine box_event ?hg (N := 5) ?hd (cs := #[.int .i64 W, .int .i64 H, .slice (some ⟨g, 0, none⟩) q.length c0]) (t := 32) ?hr ?_; (case hd => rfl); (case hg => rfl); (case hr => first | (go_simp; done) | (go_simp; rfl)); intro g5 hg5 w5 hboxg5 hbg5; ) | ((with_reducible refine gate_dst (N := 6) rfl ?_); refine box_event ?hg (N := 6) ?hd (cs := #[.int .i64 X, .int .i64 Y, .int .i64 MW, .int .i64 MH, .slice MA ml.length MC]) (t := 34) ?hr ?_; (case hd => rfl); (case hg => rfl); (case hr => first | (go_simp; done) | (go_simp; rfl)); intro g6 hg6 w6 hboxg6 hbg6; have HI : Aside0 (IntoW w0 w g5 g6 g c0 W H X Y MW MH MA MC q.length ml.length ok q w6) := ⟨⟨blk_below hboxg5 hbg6, hboxg6, Kd.R_below (Kd.R_below HR.out hbg5) hbg6, rfl, by have := HL.out; omega, by have := HL.out; have := hbg5.size; omega, HG.out, below_step (below_step HB.out hbg5) hbg6, KeepBut.of_below (below_step hbg5 hbg6) g none⟩⟩; clear hboxg5 hboxg6 hbg5 hbg6 hg5 hg6 HR HB HG HL; have c6w6_0 : w6.cell? ⟨g6, 0, none⟩ = some (.int .i64 X) := (blk_cell HI.out.b6 0).trans rfl; have c6w6_1 : w6.cell? ⟨g6, 1, none⟩ = some (.int .i64 Y) := (blk_cell HI.out.b6 1).trans rfl; have c6w6_2 : w6.cell? ⟨g6, 2, none⟩ = some (.int .i64 MW) := (blk_cell HI.out.b6 2).trans rfl; have c6w6_3 : w6.cell? ⟨g6, 3, none⟩ = some (.int .i64 MH) := (blk_cell HI.out.b6 3).trans rfl; have c6w6_4 : w6.cell? ⟨g6, 4, none⟩ = some (.slice MA ml.length MC) := (blk_cell HI.out.b6 4).trans rfl; have c5w6_0 : w6.cell? ⟨g5, 0, none⟩ = some (.int .i64 W) := (blk_cell HI.out.b5 0).trans rfl; have c5w6_1 : w6.cell? ⟨g5, 1, none⟩ = some (.int .i64 H) := (blk_cell HI.out.b5 1).trans rfl; have c5w6_2 : w6.cell? ⟨g5, 2, none⟩ = some (.slice (some ⟨g, 0, none⟩) q.length c0) := (blk_cell HI.out.b5 2).trans rfl) | (go_at_call 64; (with_reducible refine (blend_near.calls X dx x false _ AX.out).mono ?_); rintro e w' ⟨rfl, ⟨nd, rfl⟩⟩; have HJ := Aside0.mk (HI.out.drewN nd); clear HI; clear c6w6_0 c6w6_1 c6w6_2 c6w6_3 c6w6_4 c5w6_0 c5w6_1 c5w6_2; generalize World.drewN w6 nd = w7 at HJ ⊢; have HI := HJ; clear HJ; have c6w7_0 : w7.cell? ⟨g6, 0, none⟩ = some (.int .i64 X) := (blk_cell HI.out.b6 0).trans rfl; have c6w7_1 : w7.cell? ⟨g6, 1, none⟩ = some (.int .i64 Y) := (blk_cell HI.out.b6 1).trans rfl; have c6w7_2 : w7.cell? ⟨g6, 2, none⟩ = some (.int .i64 MW) := (blk_cell HI.out.b6 2).trans rfl; have c6w7_3 : w7.cell? ⟨g6, 3, none⟩ = some (.int .i64 MH) := (blk_cell HI.out.b6 3).trans rfl; have c6w7_4 : w7.cell? ⟨g6, 4, none⟩ = some (.slice MA ml.length MC) := (blk_cell HI.out.b6 4).trans rfl; have c5w7_0 : w7.cell? ⟨g5, 0, none⟩ = some (.int .i64 W) := (blk_cell HI.out.b5 0).trans rfl; have c5w7_1 : w7.cell? ⟨g5, 1, none⟩ = some (.int .i64 H) := (blk_cell HI.out.b5 1).trans rfl; have c5w7_2 : w7.cell? ⟨g5, 2, none⟩ = some (.slice (some ⟨g, 0, none⟩) q.length c0) := (blk_cell HI.out.b5 2).trans rfl) | (go_at_call 64; (with_reducible refine (blend_near.calls Y dy y hy _ AY.out).mono ?_); rintro e w' ⟨rfl, ⟨nd, rfl⟩⟩; have HJ := Aside0.mk (HI.out.drewN nd); clear HI; clear c6w7_0 c6w7_1 c6w7_2 c6w7_3 c6w7_4 c5w7_0 c5w7_1 c5w7_2; generalize World.drewN w7 nd = w8 at HJ ⊢; have HI := HJ; clear HJ; have c6w8_0 : w8.cell? ⟨g6, 0, none⟩ = some (.int .i64 X) := (blk_cell HI.out.b6 0).trans rfl; have c6w8_1 : w8.cell? ⟨g6, 1, none⟩ = some (.int .i64 Y) := (blk_cell HI.out.b6 1).trans rfl; have c6w8_2 : w8.cell? ⟨g6, 2, none⟩ = some (.int .i64 MW) := (blk_cell HI.out.b6 2).trans rfl; have c6w8_3 : w8.cell? ⟨g6, 3, none⟩ = some (.int .i64 MH) := (blk_cell HI.out.b6 3).trans rfl; have c6w8_4 : w8.cell? ⟨g6, 4, none⟩ = some (.slice MA ml.length MC) := (blk_cell HI.out.b6 4).trans rfl; have c5w8_0 : w8.cell? ⟨g5, 0, none⟩ = some (.int .i64 W) := (blk_cell HI.out.b5 0).trans rfl; have c5w8_1 : w8.cell? ⟨g5, 1, none⟩ = some (.int .i64 H) := (blk_cell HI.out.b5 1).trans rfl; have c5w8_2 : w8.cell? ⟨g5, 2, none⟩ = some (.slice (some ⟨g, 0, none⟩) q.length c0) := (blk_cell HI.out.b5 2).trans rfl))
    (try simp only [Exit.inBlock, Exit.then])
    refine bodyPost_ret (results_none rfl _ _ _) rfl ?_
    exact ⟨rfl, HI.out.row, HI.out.bel, HI.out.keep⟩
  | true =>
    cases hy with
    | false =>
      have hr : into W H q X Y MW MH ml dx dy ink = q := by unfold into; rw [AX.out, AY.out]
      rw [hr]
      go_enter Try.func51, Try.ntmps51
      go_wp2_with (first | ((with_reducible refine gate_dst (N := 5) rfl ?_); refine box_event ?hg (N := 5) ?hd (cs := #[.int .i64 W, .int .i64 H, .slice (some ⟨g, 0, none⟩) q.length c0]) (t := 32) ?hr ?_; (case hd => rfl); (case hg => rfl); (case hr => first | (go_simp; done) | (go_simp; rfl)); intro g5 hg5 w5 hboxg5 hbg5; ) | ((with_reducible refine gate_dst (N := 6) rfl ?_); refine box_event ?hg (N := 6) ?hd (cs := #[.int .i64 X, .int .i64 Y, .int .i64 MW, .int .i64 MH, .slice MA ml.length MC]) (t := 34) ?hr ?_; (case hd => rfl); (case hg => rfl); (case hr => first | (go_simp; done) | (go_simp; rfl)); intro g6 hg6 w6 hboxg6 hbg6; have HI : Aside0 (IntoW w0 w g5 g6 g c0 W H X Y MW MH MA MC q.length ml.length ok q w6) := ⟨⟨blk_below hboxg5 hbg6, hboxg6, Kd.R_below (Kd.R_below HR.out hbg5) hbg6, rfl, by have := HL.out; omega, by have := HL.out; have := hbg5.size; omega, HG.out, below_step (below_step HB.out hbg5) hbg6, KeepBut.of_below (below_step hbg5 hbg6) g none⟩⟩; clear hboxg5 hboxg6 hbg5 hbg6 hg5 hg6 HR HB HG HL; have c6w6_0 : w6.cell? ⟨g6, 0, none⟩ = some (.int .i64 X) := (blk_cell HI.out.b6 0).trans rfl; have c6w6_1 : w6.cell? ⟨g6, 1, none⟩ = some (.int .i64 Y) := (blk_cell HI.out.b6 1).trans rfl; have c6w6_2 : w6.cell? ⟨g6, 2, none⟩ = some (.int .i64 MW) := (blk_cell HI.out.b6 2).trans rfl; have c6w6_3 : w6.cell? ⟨g6, 3, none⟩ = some (.int .i64 MH) := (blk_cell HI.out.b6 3).trans rfl; have c6w6_4 : w6.cell? ⟨g6, 4, none⟩ = some (.slice MA ml.length MC) := (blk_cell HI.out.b6 4).trans rfl; have c5w6_0 : w6.cell? ⟨g5, 0, none⟩ = some (.int .i64 W) := (blk_cell HI.out.b5 0).trans rfl; have c5w6_1 : w6.cell? ⟨g5, 1, none⟩ = some (.int .i64 H) := (blk_cell HI.out.b5 1).trans rfl; have c5w6_2 : w6.cell? ⟨g5, 2, none⟩ = some (.slice (some ⟨g, 0, none⟩) q.length c0) := (blk_cell HI.out.b5 2).trans rfl) | (go_at_call 64; (with_reducible refine (blend_near.calls X dx x true _ AX.out).mono ?_); rintro e w' ⟨rfl, ⟨nd, rfl⟩⟩; have HJ := Aside0.mk (HI.out.drewN nd); clear HI; clear c6w6_0 c6w6_1 c6w6_2 c6w6_3 c6w6_4 c5w6_0 c5w6_1 c5w6_2; generalize World.drewN w6 nd = w7 at HJ ⊢; have HI := HJ; clear HJ; have c6w7_0 : w7.cell? ⟨g6, 0, none⟩ = some (.int .i64 X) := (blk_cell HI.out.b6 0).trans rfl; have c6w7_1 : w7.cell? ⟨g6, 1, none⟩ = some (.int .i64 Y) := (blk_cell HI.out.b6 1).trans rfl; have c6w7_2 : w7.cell? ⟨g6, 2, none⟩ = some (.int .i64 MW) := (blk_cell HI.out.b6 2).trans rfl; have c6w7_3 : w7.cell? ⟨g6, 3, none⟩ = some (.int .i64 MH) := (blk_cell HI.out.b6 3).trans rfl; have c6w7_4 : w7.cell? ⟨g6, 4, none⟩ = some (.slice MA ml.length MC) := (blk_cell HI.out.b6 4).trans rfl; have c5w7_0 : w7.cell? ⟨g5, 0, none⟩ = some (.int .i64 W) := (blk_cell HI.out.b5 0).trans rfl; have c5w7_1 : w7.cell? ⟨g5, 1, none⟩ = some (.int .i64 H) := (blk_cell HI.out.b5 1).trans rfl; have c5w7_2 : w7.cell? ⟨g5, 2, none⟩ = some (.slice (some ⟨g, 0, none⟩) q.length c0) := (blk_cell HI.out.b5 2).trans rfl) | (go_at_call 64; (with_reducible refine (blend_near.calls Y dy y false _ AY.out).mono ?_); rintro e w' ⟨rfl, ⟨nd, rfl⟩⟩; have HJ := Aside0.mk (HI.out.drewN nd); clear HI; clear c6w7_0 c6w7_1 c6w7_2 c6w7_3 c6w7_4 c5w7_0 c5w7_1 c5w7_2; generalize World.drewN w7 nd = w8 at HJ ⊢; have HI := HJ; clear HJ; have c6w8_0 : w8.cell? ⟨g6, 0, none⟩ = some (.int .i64 X) := (blk_cell HI.out.b6 0).trans rfl; have c6w8_1 : w8.cell? ⟨g6, 1, none⟩ = some (.int .i64 Y) := (blk_cell HI.out.b6 1).trans rfl; have c6w8_2 : w8.cell? ⟨g6, 2, none⟩ = some (.int .i64 MW) := (blk_cell HI.out.b6 2).trans rfl; have c6w8_3 : w8.cell? ⟨g6, 3, none⟩ = some (.int .i64 MH) := (blk_cell HI.out.b6 3).trans rfl; have c6w8_4 : w8.cell? ⟨g6, 4, none⟩ = some (.slice MA ml.length MC) := (blk_cell HI.out.b6 4).trans rfl; have c5w8_0 : w8.cell? ⟨g5, 0, none⟩ = some (.int .i64 W) := (blk_cell HI.out.b5 0).trans rfl; have c5w8_1 : w8.cell? ⟨g5, 1, none⟩ = some (.int .i64 H) := (blk_cell HI.out.b5 1).trans rfl; have c5w8_2 : w8.cell? ⟨g5, 2, none⟩ = some (.slice (some ⟨g, 0, none⟩) q.length c0) := (blk_cell HI.out.b5 2).trans rfl))
      (try simp only [Exit.inBlock, Exit.then])
      refine bodyPost_ret (results_none rfl _ _ _) rfl ?_
      exact ⟨rfl, HI.out.row, HI.out.bel, HI.out.keep⟩
    | true =>
      have PX := Aside0.mk (part_some x MW W)
      have PY := Aside0.mk (part_some y MH H)
      have hr : into W H q X Y MW MH ml dx dy ink = iter (fun j q => iter (px W MW x y ink ml j) (mn MW (wrap64 (W - x)) - mx 0 (wrap64 (-x))).toNat (mx 0 (wrap64 (-x))) q) (mn MH (wrap64 (H - y)) - mx 0 (wrap64 (-y))).toNat (mx 0 (wrap64 (-y))) q := by unfold into; rw [AX.out, AY.out]
      rw [hr]
      clear hr
      have OKP := Aside0.mk (fun (i j : Int) => px_ok (i := i) (j := j) AW.out AH.out AQ.out AK.out AM.out.2.1 (AXB.out rfl) (AYB.out rfl))
      have OKJ := Aside0.mk (fun (j : Int) => j_ok (MH := MH) (H := H) (y := y) (j := j))
      clear AXB AYB AK AQ AW AH
      generalize mx 0 (wrap64 (-x)) = I0 at *
      generalize mx 0 (wrap64 (-y)) = J0 at *
      generalize mn MW (wrap64 (W - x)) = I1 at *
      generalize mn MH (wrap64 (H - y)) = J1 at *
      generalize hr_ : iter (fun j q => iter (px W MW x y ink ml j) (I1 - I0).toNat I0 q) (J1 - J0).toNat J0 q = r
      have HR0 := Aside0.mk hr_
      clear hr_
      go_enter Try.func51, Try.ntmps51
      go_wp2_with (first | ((with_reducible refine gate_dst (N := 5) rfl ?_); refine box_event ?hg (N := 5) ?hd (cs := #[.int .i64 W, .int .i64 H, .slice (some ⟨g, 0, none⟩) q.length c0]) (t := 32) ?hr ?_; (case hd => rfl); (case hg => rfl); (case hr => first | (go_simp; done) | (go_simp; rfl)); intro g5 hg5 w5 hboxg5 hbg5; ) | ((with_reducible refine gate_dst (N := 6) rfl ?_); refine box_event ?hg (N := 6) ?hd (cs := #[.int .i64 X, .int .i64 Y, .int .i64 MW, .int .i64 MH, .slice MA ml.length MC]) (t := 34) ?hr ?_; (case hd => rfl); (case hg => rfl); (case hr => first | (go_simp; done) | (go_simp; rfl)); intro g6 hg6 w6 hboxg6 hbg6; have HI : Aside0 (IntoW w0 w g5 g6 g c0 W H X Y MW MH MA MC q.length ml.length ok q w6) := ⟨⟨blk_below hboxg5 hbg6, hboxg6, Kd.R_below (Kd.R_below HR.out hbg5) hbg6, rfl, by have := HL.out; omega, by have := HL.out; have := hbg5.size; omega, HG.out, below_step (below_step HB.out hbg5) hbg6, KeepBut.of_below (below_step hbg5 hbg6) g none⟩⟩; clear hboxg5 hboxg6 hbg5 hbg6 hg5 hg6 HR HB HG HL; have c6w6_0 : w6.cell? ⟨g6, 0, none⟩ = some (.int .i64 X) := (blk_cell HI.out.b6 0).trans rfl; have c6w6_1 : w6.cell? ⟨g6, 1, none⟩ = some (.int .i64 Y) := (blk_cell HI.out.b6 1).trans rfl; have c6w6_2 : w6.cell? ⟨g6, 2, none⟩ = some (.int .i64 MW) := (blk_cell HI.out.b6 2).trans rfl; have c6w6_3 : w6.cell? ⟨g6, 3, none⟩ = some (.int .i64 MH) := (blk_cell HI.out.b6 3).trans rfl; have c6w6_4 : w6.cell? ⟨g6, 4, none⟩ = some (.slice MA ml.length MC) := (blk_cell HI.out.b6 4).trans rfl; have c5w6_0 : w6.cell? ⟨g5, 0, none⟩ = some (.int .i64 W) := (blk_cell HI.out.b5 0).trans rfl; have c5w6_1 : w6.cell? ⟨g5, 1, none⟩ = some (.int .i64 H) := (blk_cell HI.out.b5 1).trans rfl; have c5w6_2 : w6.cell? ⟨g5, 2, none⟩ = some (.slice (some ⟨g, 0, none⟩) q.length c0) := (blk_cell HI.out.b5 2).trans rfl) | (go_at_call 64; (with_reducible refine (blend_near.calls X dx x true _ AX.out).mono ?_); rintro e w' ⟨rfl, ⟨nd, rfl⟩⟩; have HJ := Aside0.mk (HI.out.drewN nd); clear HI; clear c6w6_0 c6w6_1 c6w6_2 c6w6_3 c6w6_4 c5w6_0 c5w6_1 c5w6_2; generalize World.drewN w6 nd = w7 at HJ ⊢; have HI := HJ; clear HJ; have c6w7_0 : w7.cell? ⟨g6, 0, none⟩ = some (.int .i64 X) := (blk_cell HI.out.b6 0).trans rfl; have c6w7_1 : w7.cell? ⟨g6, 1, none⟩ = some (.int .i64 Y) := (blk_cell HI.out.b6 1).trans rfl; have c6w7_2 : w7.cell? ⟨g6, 2, none⟩ = some (.int .i64 MW) := (blk_cell HI.out.b6 2).trans rfl; have c6w7_3 : w7.cell? ⟨g6, 3, none⟩ = some (.int .i64 MH) := (blk_cell HI.out.b6 3).trans rfl; have c6w7_4 : w7.cell? ⟨g6, 4, none⟩ = some (.slice MA ml.length MC) := (blk_cell HI.out.b6 4).trans rfl; have c5w7_0 : w7.cell? ⟨g5, 0, none⟩ = some (.int .i64 W) := (blk_cell HI.out.b5 0).trans rfl; have c5w7_1 : w7.cell? ⟨g5, 1, none⟩ = some (.int .i64 H) := (blk_cell HI.out.b5 1).trans rfl; have c5w7_2 : w7.cell? ⟨g5, 2, none⟩ = some (.slice (some ⟨g, 0, none⟩) q.length c0) := (blk_cell HI.out.b5 2).trans rfl) | (go_at_call 64; (with_reducible refine (blend_near.calls Y dy y true _ AY.out).mono ?_); rintro e w' ⟨rfl, ⟨nd, rfl⟩⟩; have HJ := Aside0.mk (HI.out.drewN nd); clear HI; clear c6w7_0 c6w7_1 c6w7_2 c6w7_3 c6w7_4 c5w7_0 c5w7_1 c5w7_2; generalize World.drewN w7 nd = w8 at HJ ⊢; have HI := HJ; clear HJ; have c6w8_0 : w8.cell? ⟨g6, 0, none⟩ = some (.int .i64 X) := (blk_cell HI.out.b6 0).trans rfl; have c6w8_1 : w8.cell? ⟨g6, 1, none⟩ = some (.int .i64 Y) := (blk_cell HI.out.b6 1).trans rfl; have c6w8_2 : w8.cell? ⟨g6, 2, none⟩ = some (.int .i64 MW) := (blk_cell HI.out.b6 2).trans rfl; have c6w8_3 : w8.cell? ⟨g6, 3, none⟩ = some (.int .i64 MH) := (blk_cell HI.out.b6 3).trans rfl; have c6w8_4 : w8.cell? ⟨g6, 4, none⟩ = some (.slice MA ml.length MC) := (blk_cell HI.out.b6 4).trans rfl; have c5w8_0 : w8.cell? ⟨g5, 0, none⟩ = some (.int .i64 W) := (blk_cell HI.out.b5 0).trans rfl; have c5w8_1 : w8.cell? ⟨g5, 1, none⟩ = some (.int .i64 H) := (blk_cell HI.out.b5 1).trans rfl; have c5w8_2 : w8.cell? ⟨g5, 2, none⟩ = some (.slice (some ⟨g, 0, none⟩) q.length c0) := (blk_cell HI.out.b5 2).trans rfl) | (go_at_call 65; (with_reducible refine (blend_part.calls x MW W I0 I1 _ PX.out).mono ?_); rintro e w9 ⟨rfl, hb⟩; have HJ := Aside0.mk (HI.out.below hb); clear HI hb; clear c6w8_0 c6w8_1 c6w8_2 c6w8_3 c6w8_4 c5w8_0 c5w8_1 c5w8_2; have HI := HJ; clear HJ; have c6w9_0 : w9.cell? ⟨g6, 0, none⟩ = some (.int .i64 X) := (blk_cell HI.out.b6 0).trans rfl; have c6w9_1 : w9.cell? ⟨g6, 1, none⟩ = some (.int .i64 Y) := (blk_cell HI.out.b6 1).trans rfl; have c6w9_2 : w9.cell? ⟨g6, 2, none⟩ = some (.int .i64 MW) := (blk_cell HI.out.b6 2).trans rfl; have c6w9_3 : w9.cell? ⟨g6, 3, none⟩ = some (.int .i64 MH) := (blk_cell HI.out.b6 3).trans rfl; have c6w9_4 : w9.cell? ⟨g6, 4, none⟩ = some (.slice MA ml.length MC) := (blk_cell HI.out.b6 4).trans rfl; have c5w9_0 : w9.cell? ⟨g5, 0, none⟩ = some (.int .i64 W) := (blk_cell HI.out.b5 0).trans rfl; have c5w9_1 : w9.cell? ⟨g5, 1, none⟩ = some (.int .i64 H) := (blk_cell HI.out.b5 1).trans rfl; have c5w9_2 : w9.cell? ⟨g5, 2, none⟩ = some (.slice (some ⟨g, 0, none⟩) q.length c0) := (blk_cell HI.out.b5 2).trans rfl) | (go_at_call 65; (with_reducible refine (blend_part.calls y MH H J0 J1 _ PY.out).mono ?_); rintro e w10 ⟨rfl, hb⟩; have HJ := Aside0.mk (HI.out.below hb); clear HI hb; clear c6w9_0 c6w9_1 c6w9_2 c6w9_3 c6w9_4 c5w9_0 c5w9_1 c5w9_2; have HI := HJ; clear HJ; have c6w10_0 : w10.cell? ⟨g6, 0, none⟩ = some (.int .i64 X) := (blk_cell HI.out.b6 0).trans rfl; have c6w10_1 : w10.cell? ⟨g6, 1, none⟩ = some (.int .i64 Y) := (blk_cell HI.out.b6 1).trans rfl; have c6w10_2 : w10.cell? ⟨g6, 2, none⟩ = some (.int .i64 MW) := (blk_cell HI.out.b6 2).trans rfl; have c6w10_3 : w10.cell? ⟨g6, 3, none⟩ = some (.int .i64 MH) := (blk_cell HI.out.b6 3).trans rfl; have c6w10_4 : w10.cell? ⟨g6, 4, none⟩ = some (.slice MA ml.length MC) := (blk_cell HI.out.b6 4).trans rfl; have c5w10_0 : w10.cell? ⟨g5, 0, none⟩ = some (.int .i64 W) := (blk_cell HI.out.b5 0).trans rfl; have c5w10_1 : w10.cell? ⟨g5, 1, none⟩ = some (.int .i64 H) := (blk_cell HI.out.b5 1).trans rfl; have c5w10_2 : w10.cell? ⟨g5, 2, none⟩ = some (.slice (some ⟨g, 0, none⟩) q.length c0) := (blk_cell HI.out.b5 2).trans rfl))
      go_loopw [18] (fun s wr => ∃ (j : Int) (q' : List Int), s = .int .i64 j ∧ Aside0 (J0 ≤ j) ∧ Aside0 (IntoW w0 w g5 g6 g c0 W H X Y MW MH MA MC q.length ml.length ok q' wr) ∧ Aside0 (iter (fun j q => iter (px W MW x y ink ml j) (I1 - I0).toNat I0 q) (J1 - j).toNat j q' = r)) (fun s _ => (J1 - intOf s).toNat)
      case atStart => exact ⟨J0, q, rfl, ⟨Int.le_refl _⟩, HI, HR0⟩
      case round =>
        clear HR0 HI c6w10_0 c6w10_1 c6w10_2 c6w10_3 c6w10_4 c5w10_0 c5w10_1 c5w10_2
        obtain ⟨j, q1, rfl, HJ0, HI, HR1⟩ := hrel
        by_cases hlt : j < J1
        · have hltb : decide (j < J1) = true := decide_eq_true hlt
          have HLT := Aside0.mk hlt
          clear hlt
          have HR2 : Aside0 (iter (fun j q => iter (px W MW x y ink ml j) (I1 - I0).toNat I0 q) (J1 - (j + 1)).toNat (j + 1) (iter (px W MW x y ink ml j) (I1 - I0).toNat I0 q1) = r) := ⟨by
            have := HR1.out
            rw [show (J1 - j).toNat = (J1 - (j + 1)).toNat + 1 by have := HLT.out; omega, iter] at this
            exact this⟩
          clear HR1
          generalize hq2_ : iter (px W MW x y ink ml j) (I1 - I0).toNat I0 q1 = q2 at HR2
          have HQ2 := Aside0.mk hq2_
          clear hq2_
          go_wp2
          go_loopw [19] (fun s wr => ∃ (i : Int) (q' : List Int), s = .int .i64 i ∧ Aside0 (I0 ≤ i) ∧ Aside0 (IntoW w0 w g5 g6 g c0 W H X Y MW MH MA MC q.length ml.length ok q' wr) ∧ Aside0 (iter (px W MW x y ink ml j) (I1 - i).toNat i q' = q2)) (fun s _ => (I1 - intOf s).toNat)
          case atStart => exact ⟨I0, q1, rfl, ⟨Int.le_refl _⟩, HI, HQ2⟩
          case round =>
            clear HQ2 HI
            obtain ⟨i, q3, rfl, HI0, HI, HQ2⟩ := hrel
            by_cases hlt2 : i < I1
            · have hltb2 : decide (i < I1) = true := decide_eq_true hlt2
              have HQ3 : Aside0 (iter (px W MW x y ink ml j) (I1 - (i + 1)).toNat (i + 1) (px W MW x y ink ml j i q3) = q2) := ⟨by
                have := HQ2.out
                rw [show (I1 - i).toNat = (I1 - (i + 1)).toNat + 1 by omega, iter] at this
                exact this⟩
              clear HQ2
              obtain ⟨⟨e1, e2, e3, e4⟩, ⟨e5, e6, e7, _⟩, ⟨hK0, hK1⟩, hM0, hM1⟩ := OKP.out i j ⟨HI0.out, hlt2⟩ ⟨HJ0.out, HLT.out⟩
              have HLT2 := Aside0.mk hlt2
              clear hlt2
              have HV : Aside0 (px W MW x y ink ml j i q3 = q3.set ((y + j) * W + x + i).toNat (mixv (rd q3 ((y + j) * W + x + i)) ink (rd ml (j * MW + i)))) := ⟨rfl⟩
              obtain ⟨ad, eA, hca⟩ := Kd.at_int AM.out _ hM0 hM1
              subst eA
              obtain ⟨kK, eK⟩ : ∃ kK, (y + j) * W + x + i = kK := ⟨_, rfl⟩
              obtain ⟨kM, eM⟩ : ∃ kM, j * MW + i = kM := ⟨_, rfl⟩
              rw [eK] at hK0 hK1
              rw [eM] at hM0 hM1 hca
              have HV2 : Aside0 (px W MW x y ink ml j i q3 = q3.set kK.toNat (mixv (rd q3 kK) ink (rd ml kM))) := ⟨by rw [HV.out, eK, eM]⟩
              have e4a : IntKind.i64.wrap ((y + j) * W + x + i) = kK := e4.trans eK
              have e4b : wrap64 ((y + j) * W + x + i) = kK := by have h_ := e4a; rw [IntKind.wrap_i64] at h_; unfold wrap64; exact h_
              have e6a : IntKind.i64.wrap (j * MW + i) = kM := e6.trans eM
              have e6b : wrap64 (j * MW + i) = kM := by have h_ := e6a; rw [IntKind.wrap_i64] at h_; unfold wrap64; exact h_
              clear e4 e6 eK eM HV
              have pK := eq_true hK0
              have qK := eq_true hK1
              have pM := eq_true hM0
              have qM := eq_true hM1
              have HK0 := Aside0.mk hK0
              have HK1 := Aside0.mk hK1
              have HCA := Aside0.mk hca
              clear hK0 hK1 hM0 hM1 hca
              have c6wr_0 : wr.cell? ⟨g6, 0, none⟩ = some (.int .i64 X) := (blk_cell HI.out.b6 0).trans rfl; have c6wr_1 : wr.cell? ⟨g6, 1, none⟩ = some (.int .i64 Y) := (blk_cell HI.out.b6 1).trans rfl; have c6wr_2 : wr.cell? ⟨g6, 2, none⟩ = some (.int .i64 MW) := (blk_cell HI.out.b6 2).trans rfl; have c6wr_3 : wr.cell? ⟨g6, 3, none⟩ = some (.int .i64 MH) := (blk_cell HI.out.b6 3).trans rfl; have c6wr_4 : wr.cell? ⟨g6, 4, none⟩ = some (.slice (some ad) ml.length MC) := (blk_cell HI.out.b6 4).trans rfl; have c5wr_0 : wr.cell? ⟨g5, 0, none⟩ = some (.int .i64 W) := (blk_cell HI.out.b5 0).trans rfl; have c5wr_1 : wr.cell? ⟨g5, 1, none⟩ = some (.int .i64 H) := (blk_cell HI.out.b5 1).trans rfl; have c5wr_2 : wr.cell? ⟨g5, 2, none⟩ = some (.slice (some ⟨g, 0, none⟩) q.length c0) := (blk_cell HI.out.b5 2).trans rfl
              go_wp2
              refine start_ (n := 18) (S := fun w' => w'.cell? ⟨g, kK.toNat, none⟩ = some (.int .u8 (rd q3 kK)) ∧ w'.cell? ⟨g6, 4, none⟩ = some (.slice (some ad) ml.length MC) ∧ w'.cell? ⟨g6, 2, none⟩ = some (.int .i64 MW) ∧ w'.cell? (ad.add kM.toNat) = some (.int .u8 (rd ml kM)) ∧ IntoW w0 w g5 g6 g c0 W H X Y MW MH (some ad) MC q.length ml.length ok q3 w') (ds := [17]) #[false, false, false, false, false, false, false, false, false, false, false, false, false, false, false, false, false, false] (by kernel_rfl) rfl rfl ⟨(HI.out.drew.at_ kK HK0.out HK1.out).1, ((blk_cell HI.out.drew.b6 4).trans rfl), ((blk_cell HI.out.drew.b6 2).trans rfl), ((HI.out.drew.bel.cell (World.block_lt_of_cell? w0 _ HCA.out)).trans HCA.out), HI.out.drew⟩ (fun hHeld => ?_)
              refine pure_ (i := 0) (N := some 84) (v := ?_) (a' := ?_) #[true, false, false, false, false, false, false, false, false, false, false, false, false, false, false, false, false, false] rfl rfl (by kernel_rfl) (fun _ _ _ h => h) (Or.inl ⟨by rfl, ?_⟩) ?_ ?_
              rotate_left
              · intro w'
                go_simp
                with_reducible rfl
              rotate_left
              · simp only [Act.put, List.setIfInBounds_toArray, List.set_cons_zero, List.set_cons_succ, i64_w, i32_w]
                rfl
              refine pure_ (i := 1) (N := some 85) (v := ?_) (a' := ?_) #[true, true, false, false, false, false, false, false, false, false, false, false, false, false, false, false, false, false] rfl rfl (by kernel_rfl) (fun _ _ _ h => h) (Or.inl ⟨by rfl, ?_⟩) ?_ ?_
              rotate_left
              · intro w'
                go_simp
                with_reducible rfl
              rotate_left
              · simp only [Act.put, List.setIfInBounds_toArray, List.set_cons_zero, List.set_cons_succ, i64_w, i32_w]
                rfl
              refine pure_ (i := 2) (N := some 86) (v := ?_) (a' := ?_) #[true, true, true, false, false, false, false, false, false, false, false, false, false, false, false, false, false, false] rfl rfl (by kernel_rfl) (fun _ _ _ h => h) (Or.inl ⟨by rfl, ?_⟩) ?_ ?_
              rotate_left
              · intro w'
                go_simp
                with_reducible rfl
              rotate_left
              · simp only [Act.put, List.setIfInBounds_toArray, List.set_cons_zero, List.set_cons_succ, i64_w, i32_w]
                rfl
              refine pure_ (i := 4) (N := some 88) (v := ?_) (a' := ?_) #[true, true, true, false, true, false, false, false, false, false, false, false, false, false, false, false, false, false] rfl rfl (by kernel_rfl) (fun _ _ _ h => h) (Or.inl ⟨by rfl, ?_⟩) ?_ ?_
              rotate_left
              · intro w'
                go_simp
                with_reducible rfl
              rotate_left
              · simp only [Act.put, List.setIfInBounds_toArray, List.set_cons_zero, List.set_cons_succ, i64_w, i32_w]
                rfl
              refine pure_ (i := 5) (N := some 89) (v := ?_) (a' := ?_) #[true, true, true, false, true, true, false, false, false, false, false, false, false, false, false, false, false, false] rfl rfl (by kernel_rfl) (fun _ _ _ h => h) (Or.inl ⟨by rfl, ?_⟩) ?_ ?_
              rotate_left
              · intro w'
                go_simp
                with_reducible rfl
              rotate_left
              · simp only [Act.put, List.setIfInBounds_toArray, List.set_cons_zero, List.set_cons_succ, i64_w, i32_w]
                rfl
              refine pure_ (i := 7) (N := some 91) (v := ?_) (a' := ?_) #[true, true, true, false, true, true, false, true, false, false, false, false, false, false, false, false, false, false] rfl rfl (by kernel_rfl) (fun _ _ _ h => h) (Or.inl ⟨by rfl, ?_⟩) ?_ ?_
              rotate_left
              · intro w'
                go_simp
                with_reducible rfl
              rotate_left
              · simp only [Act.put, List.setIfInBounds_toArray, List.set_cons_zero, List.set_cons_succ, i64_w, i32_w]
                rfl
              refine pure_ (i := 8) (N := some 92) (v := ?_) (a' := ?_) #[true, true, true, false, true, true, false, true, true, false, false, false, false, false, false, false, false, false] rfl rfl (by kernel_rfl) (fun _ _ _ h => h) (Or.inl ⟨by rfl, ?_⟩) ?_ ?_
              rotate_left
              · intro w'
                go_simp
                with_reducible rfl
              rotate_left
              · simp only [Act.put, List.setIfInBounds_toArray, List.set_cons_zero, List.set_cons_succ, i64_w, i32_w]
                rfl
              refine pure_ (i := 11) (N := some 95) (v := ?_) (a' := ?_) #[true, true, true, false, true, true, false, true, true, false, false, true, false, false, false, false, false, false] rfl rfl (by kernel_rfl) (fun _ _ _ h => h) (Or.inl ⟨by rfl, ?_⟩) ?_ ?_
              rotate_left
              · intro w'
                go_simp
                with_reducible rfl
              rotate_left
              · simp only [Act.put, List.setIfInBounds_toArray, List.set_cons_zero, List.set_cons_succ, i64_w, i32_w]
                rfl
              refine take_ (i := 3) (N := some 87) (v := ?_) (a' := ?_) #[true, true, true, true, true, true, false, true, true, false, false, true, false, false, false, false, false, false] rfl rfl (by kernel_rfl) (fun _ _ _ h => h) (Or.inl ⟨by rfl, ?_⟩) hHeld ?_ ?_
              rotate_left
              · rintro w' ⟨s0, s1, s2, s3, s4⟩
                go_simp
                with_reducible rfl
              rotate_left
              · simp only [Act.put, List.setIfInBounds_toArray, List.set_cons_zero, List.set_cons_succ, i64_w, i32_w]
                rfl
              refine take_ (i := 6) (N := some 90) (v := ?_) (a' := ?_) #[true, true, true, true, true, true, true, true, true, false, false, true, false, false, false, false, false, false] rfl rfl (by kernel_rfl) (fun _ _ _ h => h) (Or.inl ⟨by rfl, ?_⟩) hHeld ?_ ?_
              rotate_left
              · rintro w' ⟨s0, s1, s2, s3, s4⟩
                go_simp
                with_reducible rfl
              rotate_left
              · simp only [Act.put, List.setIfInBounds_toArray, List.set_cons_zero, List.set_cons_succ, i64_w, i32_w]
                rfl
              refine take_ (i := 9) (N := some 93) (v := ?_) (a' := ?_) #[true, true, true, true, true, true, true, true, true, true, false, true, false, false, false, false, false, false] rfl rfl (by kernel_rfl) (fun _ _ _ h => h) (Or.inl ⟨by rfl, ?_⟩) hHeld ?_ ?_
              rotate_left
              · rintro w' ⟨s0, s1, s2, s3, s4⟩
                go_simp
                with_reducible rfl
              rotate_left
              · simp only [Act.put, List.setIfInBounds_toArray, List.set_cons_zero, List.set_cons_succ, i64_w, i32_w]
                rfl
              refine pure_ (i := 10) (N := some 94) (v := ?_) (a' := ?_) #[true, true, true, true, true, true, true, true, true, true, true, true, false, false, false, false, false, false] rfl rfl (by kernel_rfl) (fun _ _ _ h => h) (Or.inl ⟨by rfl, ?_⟩) ?_ ?_
              rotate_left
              · intro w'
                go_simp
                with_reducible rfl
              rotate_left
              · simp only [Act.put, List.setIfInBounds_toArray, List.set_cons_zero, List.set_cons_succ, i64_w, i32_w]
                rfl
              refine pure_ (i := 12) (N := some 96) (v := ?_) (a' := ?_) #[true, true, true, true, true, true, true, true, true, true, true, true, true, false, false, false, false, false] rfl rfl (by kernel_rfl) (fun _ _ _ h => h) (Or.inl ⟨by rfl, ?_⟩) ?_ ?_
              rotate_left
              · intro w'
                go_simp
                with_reducible rfl
              rotate_left
              · simp only [Act.put, List.setIfInBounds_toArray, List.set_cons_zero, List.set_cons_succ, i64_w, i32_w]
                rfl
              refine pure_ (i := 13) (N := some 97) (v := ?_) (a' := ?_) #[true, true, true, true, true, true, true, true, true, true, true, true, true, true, false, false, false, false] rfl rfl (by kernel_rfl) (fun _ _ _ h => h) (Or.inl ⟨by rfl, ?_⟩) ?_ ?_
              rotate_left
              · intro w'
                go_simp
                with_reducible rfl
              rotate_left
              · simp only [Act.put, List.setIfInBounds_toArray, List.set_cons_zero, List.set_cons_succ, i64_w, i32_w]
                rfl
              refine take_ (i := 14) (N := some 98) (v := ?_) (a' := ?_) #[true, true, true, true, true, true, true, true, true, true, true, true, true, true, true, false, false, false] rfl rfl (by kernel_rfl) (fun _ _ _ h => h) (Or.inl ⟨by rfl, ?_⟩) hHeld ?_ ?_
              rotate_left
              · rintro w' ⟨s0, s1, s2, s3, s4⟩
                go_simp
                with_reducible rfl
              rotate_left
              · simp only [Act.put, List.setIfInBounds_toArray, List.set_cons_zero, List.set_cons_succ, i64_w, i32_w]
                rfl
              refine one_ (i := 15) (N := some 99) #[true, true, true, true, true, true, true, true, true, true, true, true, true, true, true, true, false, false] rfl rfl (by kernel_rfl) (by decide) (fun K hK => ?_)
              refine goes_ Try.func43 (by kernel_rfl) rfl #[.int .u8 (rd q3 kK), .int .u8 ink, .int .u8 (rd ml kM)] (by rfl) rfl rfl (by simp only [List.map_toArray, List.map_cons, List.map_nil]; rfl) ?_
              with_reducible refine (blend_Mix.calls (rd q3 kK) ink (rd ml kM) _ _ (mixv_some _ _ _)).mono ?_
              rintro e w3 ⟨rfl, ⟨nd, rfl⟩⟩
              refine ⟨_, rfl, ?_⟩
              refine hK.out _ _ ⟨((hHeld.2.2.2.2.drewN nd).at_ kK HK0.out HK1.out).1, ((blk_cell (hHeld.2.2.2.2.drewN nd).b6 4).trans rfl), ((blk_cell (hHeld.2.2.2.2.drewN nd).b6 2).trans rfl), (((hHeld.2.2.2.2.drewN nd).bel.cell (World.block_lt_of_cell? w0 _ HCA.out)).trans HCA.out), (hHeld.2.2.2.2.drewN nd)⟩ (fun hHeld => ?_)
              clear hK K
              refine norm_ (a' := ?_) ?_ ?_
              rotate_left
              · show Act.put _ (some 99) _ = _
                simp only [Act.put, List.setIfInBounds_toArray, List.set_cons_zero, List.set_cons_succ, i64_w, i32_w]
                rfl
              refine pure_ (i := 16) (N := some 100) (v := ?_) (a' := ?_) #[true, true, true, true, true, true, true, true, true, true, true, true, true, true, true, true, true, false] rfl rfl (by kernel_rfl) (fun _ _ _ h => h) (Or.inl ⟨by rfl, ?_⟩) ?_ ?_
              rotate_left
              · intro w'
                go_simp
                with_reducible rfl
              rotate_left
              · simp only [Act.put, List.setIfInBounds_toArray, List.set_cons_zero, List.set_cons_succ, i64_w, i32_w]
                rfl
              refine last_ (i := 17) (N := none) #[true, true, true, true, true, true, true, true, true, true, true, true, true, true, true, true, true, true] rfl rfl (by kernel_rfl) (by decide) (fun K hK => ?_)
              have hs0 := (HI.out.at_ kK HK0.out HK1.out).1
              have hf0 := (HI.out.at_ kK HK0.out HK1.out).2
              refine skip_ (w1 := ?_) (by rfl) rfl ?_ ?_
              rotate_left
              · go_simp
                rfl
              refine hK.out _ _ ?_
              clear hK K
              refine done_ (by kernel_rfl) ?_
              go_wp2
              refine ⟨⟨i + 1, px W MW x y ink ml j i q3, rfl, ⟨by have := HI0.out; omega⟩, ⟨?_⟩, HQ3⟩, ?_⟩
              · rw [HV2.out]
                exact (HI.out.drewN (1 + nd)).set kK (mixv (rd q3 kK) ink (rd ml kM))
              · have := HLT2.out
                simp only [intOf]
                omega
            · have hltb2 : decide (i < I1) = false := decide_eq_false hlt2
              have HE : q3 = q2 := by
                have := HQ2.out
                rw [show (I1 - i).toNat = 0 by omega, iter] at this
                exact this
              have e7 := OKJ.out j HJ0.out HLT.out
              go_wp2
              refine ⟨⟨j + 1, q3, rfl, ⟨by have := HJ0.out; omega⟩, HI, ?_⟩, ?_⟩
              · rw [HE]
                exact HR2
              · have := HLT.out
                simp only [intOf]
                omega
        · have hltb : decide (j < J1) = false := decide_eq_false hlt
          have HE : q1 = r := by
            have := HR1.out
            rw [show (J1 - j).toNat = 0 by omega, iter] at this
            exact this
          go_wp2
          go_end0
          have HF := HI.out.row
          rw [HI.out.len, HE] at HF
          exact ⟨rfl, HF, HI.out.bel, HI.out.keep⟩
end Go.Proofs.Ytplnaannfnhhgab.D
