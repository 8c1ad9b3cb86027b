/- Package raster: the first cell of a row, the spans of a row, in plain Lean. Package raster: (edge).first, walked. Package slices: IndexFunc and DeleteFunc of edges, over the predicate of rows, walked. Package slices: DeleteFunc of edges, over the predicate of rows, walked. Package raster: a span's cells counted (counted$1), walked. -/
import Derived.Test.YteoonjnmghponaaZHfa
import Derived.Lib.SliceRun
namespace Go.Proofs.Yteoonjnmghponaa.H
open Go.RowKit Go.Proofs.Yteoonjnmghponaa.F Go.Proofs.YteoonjnmghponaaW.PrintWords Go.Proofs.YteoonjnmghponaaW.PrintLast Go.Proofs.YteoonjnmghponaaW.PrintMore
set_option linter.unusedVariables false
set_option linter.unusedSimpArgs false
def upF (e : S137) (j : Int) : Int := 2 * (e.f3 - e.f1) * e.f0 + (e.f2 - e.f0) * (2 * j + 1 - 2 * e.f1) - (e.f3 - e.f1)
def cdiv (u d : Int) : Int := if 0 < Int.tmod u d then Int.tdiv u d + 1 else Int.tdiv u d
def firstF (e : S137) (j : Int) : Int := cdiv (upF e j) (2 * (e.f3 - e.f1))
theorem cdiv_is {u d : Int} (hd : 0 < d) : (cdiv u d - 1) * d < u ∧ u ≤ cdiv u d * d := by
  have h1 := Int.mul_tdiv_add_tmod u d
  have h2 := Int.tmod_lt_of_pos u hd
  have h3 : -d < Int.tmod u d := Int.lt_tmod_of_pos u hd
  unfold cdiv
  rw [Int.mul_comm d] at h1
  generalize Int.tdiv u d = q at *
  generalize Int.tmod u d = r at *
  split
  · rw [Int.add_sub_cancel, Int.add_mul, Int.one_mul]
    omega
  · rw [Int.sub_mul, Int.one_mul]
    omega
theorem cdiv_low {u d L : Int} (hd : 0 < d) (h : (L - 1) * d < u) : L ≤ cdiv u d := by
  have h1 := (cdiv_is (u := u) hd).2
  have h2 : L - 1 < cdiv u d := Int.lt_of_mul_lt_mul_right (Int.lt_of_lt_of_le h h1) (Int.le_of_lt hd)
  omega
theorem cdiv_high {u d H : Int} (hd : 0 < d) (h : u ≤ H * d) : cdiv u d ≤ H := by
  have h1 := (cdiv_is (u := u) hd).1
  have h2 : cdiv u d - 1 < H := Int.lt_of_mul_lt_mul_right (Int.lt_of_lt_of_le h1 h) (Int.le_of_lt hd)
  omega
theorem firstF_in {e : S137} {j L H : Int} (h0 : e.f1 ≤ j) (h1 : j < e.f3) (a : L ≤ e.f0) (b : L ≤ e.f2) (c : e.f0 ≤ H) (d : e.f2 ≤ H) : L ≤ firstF e j ∧ firstF e j ≤ H := by
  obtain ⟨x0, y0, x1, y1, by_⟩ := e
  dsimp only at *
  unfold firstF upF
  dsimp only
  obtain ⟨dy, hdy⟩ : ∃ z, z = y1 - y0 := ⟨_, rfl⟩
  obtain ⟨t, ht⟩ : ∃ z, z = 2 * j + 1 - 2 * y0 := ⟨_, rfl⟩
  rw [← hdy, ← ht]
  have ht0 : 0 < t := by omega
  have ht1 : t < 2 * dy := by omega
  have hd : 0 < 2 * dy := by omega
  have e1 : 2 * dy * x0 = 2 * dy * (x0 - L) + 2 * dy * L := by rw [← Int.mul_add]; congr 1; omega
  have e2 : 2 * dy * x0 = 2 * dy * H - 2 * dy * (H - x0) := by rw [← Int.mul_sub]; congr 1; omega
  have p1 : 0 ≤ 2 * dy * (x0 - L) := Int.mul_nonneg (by omega) (by omega)
  have p2 : 0 ≤ 2 * dy * (H - x0) := Int.mul_nonneg (by omega) (by omega)
  have p3 : 0 ≤ 2 * dy * (x1 - L) := Int.mul_nonneg (by omega) (by omega)
  have p4 : 0 ≤ 2 * dy * (H - x1) := Int.mul_nonneg (by omega) (by omega)
  have l1 : (L - 1) * (2 * dy) = 2 * dy * L - 2 * dy := by rw [Int.sub_mul, Int.mul_comm L, Int.one_mul]
  have l2 : H * (2 * dy) = 2 * dy * H := Int.mul_comm _ _
  have hx : (0 ≤ (x1 - x0) * t ∧ (x1 - x0) * t ≤ 2 * dy * (x1 - x0)) ∨ ((x1 - x0) * t ≤ 0 ∧ 2 * dy * (x1 - x0) ≤ (x1 - x0) * t) := by
    rcases Int.le_total x0 x1 with h | h
    · refine .inl ⟨Int.mul_nonneg (by omega) (by omega), ?_⟩
      rw [Int.mul_comm (2 * dy)]
      exact Int.mul_le_mul_of_nonneg_left (by omega) (by omega)
    · refine .inr ⟨Int.mul_nonpos_of_nonpos_of_nonneg (by omega) (by omega), ?_⟩
      rw [Int.mul_comm (2 * dy)]
      exact Int.mul_le_mul_of_nonpos_left (by omega) (by omega)
  have e3 : 2 * dy * (x1 - x0) = 2 * dy * (x1 - L) - 2 * dy * (x0 - L) := by rw [← Int.mul_sub]; congr 1; omega
  have e4 : 2 * dy * (x1 - x0) = 2 * dy * (H - x0) - 2 * dy * (H - x1) := by rw [← Int.mul_sub]; congr 1; omega
  generalize 2 * dy * (x0 - L) = u1 at *
  generalize 2 * dy * (H - x0) = u2 at *
  generalize 2 * dy * (x1 - L) = u3 at *
  generalize 2 * dy * (H - x1) = u4 at *
  generalize 2 * dy * (x1 - x0) = u5 at *
  generalize (x1 - x0) * t = u6 at *
  generalize 2 * dy * x0 = u7 at *
  exact ⟨cdiv_low hd (by omega), cdiv_high hd (by omega)⟩
theorem firstF_up {e : S137} {j : Int} (h0 : e.f1 ≤ j) (h1 : j < e.f3) (h : e.f0 = e.f2) : firstF e j = e.f0 := by
  have := firstF_in (L := e.f0) (H := e.f0) h0 h1 (Int.le_refl _) (by omega) (Int.le_refl _) (by omega)
  omega
/-! ### the spans of a row -/
def actF (j : Int) (e : S137) : Bool := decide (e.f1 ≤ j) && decide (j < e.f3)
def crs (j : Int) (l : List S137) : List S144 := (l.filter (actF j)).map fun e => ⟨firstF e j, e.f4⟩
def spansF (j : Int) : Int → List S144 → List (Int × Int × Int)
  | _, [] => []
  | wd, c :: r => (if wd + c.f1 = 0 then [] else [(j, c.f0, (r.headD z144).f0)]) ++ spansF j (wd + c.f1) r
def sumB (l : List S144) : Int := (l.map fun c => c.f1).sum
theorem sumB_perm {l m : List S144} (h : l.Perm m) : sumB l = sumB m := by
  unfold sumB
  induction h with
  | nil => rfl
  | cons x _ ih => simp [ih]
  | swap x y l => simp; omega
  | trans _ _ h1 h2 => exact h1.trans h2
theorem wj_perm {j : Int} {l m : List S137} (h : l.Perm m) : wj j l = wj j m := by
  unfold wj
  induction h with
  | nil => rfl
  | cons x _ ih => simp only [List.map_cons, List.sum_cons, ih]
  | swap x y l => simp only [List.map_cons, List.sum_cons]; omega
  | trans _ _ h1 h2 => exact h1.trans h2
theorem sumB_crs (j : Int) : ∀ l : List S137, sumB (crs j l) = wj j l
  | [] => rfl
  | e :: r => by
    have ih := sumB_crs j r
    unfold sumB crs wj at *
    rw [List.filter_cons, List.map_cons, List.sum_cons, ← ih]
    by_cases h : e.f1 ≤ j ∧ j < e.f3
    · rw [if_pos h, if_pos (by simp [actF, h.1, h.2])]
      simp
    · rw [if_neg h, if_neg (by simp [actF]; omega)]
      omega
/-- What the crossings of a row are. -/
structure RowC (l : List S137) (j : Int) (cr : List S144) : Prop where
  perm : cr.Perm (crs j l)
  up : cr.Pairwise (fun a b => a.f0 ≤ b.f0)
def RowS (l : List S137) (j : Int) (S : List (Int × Int × Int)) : Prop := ∃ cr, RowC l j cr ∧ S = spansF j 0 cr
/-- The spans of the rows from j0 to j. -/
inductive RowsS (l : List S137) (j0 : Int) : Int → List (Int × Int × Int) → Prop
  | nil : RowsS l j0 j0 []
  | row {j S T} : RowsS l j0 j S → RowS l j T → RowsS l j0 (j + 1) (S ++ T)
theorem RowC.mem {l : List S137} {j : Int} {cr : List S144} (h : RowC l j cr) {c : S144} (hc : c ∈ cr) : ∃ e ∈ l, e.f1 ≤ j ∧ j < e.f3 ∧ c = ⟨firstF e j, e.f4⟩ := by
  have := h.perm.mem_iff.1 hc
  unfold crs at this
  obtain ⟨e, he, rfl⟩ := List.mem_map.1 this
  obtain ⟨h1, h2⟩ := List.mem_filter.1 he
  simp [actF] at h2
  exact ⟨e, h1, h2.1, h2.2, rfl⟩
theorem crs_in {B : Bx} {l : List S137} (hl : ∀ e ∈ l, EOk B e) {j : Int} {cr : List S144} (h : RowC l j cr) : ∀ c ∈ cr, B.x0 ≤ c.f0 ∧ c.f0 ≤ B.x1 ∧ (c.f1 = 1 ∨ c.f1 = -1) := by
  intro c hc
  obtain ⟨e, he, h0, h1, rfl⟩ := h.mem hc
  have hk := hl e he
  have h2 := hk.a
  have h3 := hk.b
  unfold InS at h2 h3
  have := firstF_in (L := B.x0) (H := B.x1) h0 h1 h2.1 h3.1 h2.2.1 h3.2.1
  exact ⟨this.1, this.2, hk.by_⟩
theorem RowC.sum {l : List S137} {xs : List (List S30)} (hp : l.Perm (edgesOf xs [])) {j : Int} {cr : List S144} (h : RowC l j cr) : sumB cr = 0 := by
  rw [sumB_perm h.perm, sumB_crs, wj_perm hp, wj_edges]
end Go.Proofs.Yteoonjnmghponaa.H
namespace Go.Proofs.Yteoonjnmghponaa.H
open Go.RowKit Go.Proofs.Yteoonjnmghponaa.F Go.Proofs.YteoonjnmghponaaW.PrintWords Go.Proofs.YteoonjnmghponaaW.PrintLast Go.Proofs.YteoonjnmghponaaW.PrintMore
set_option linter.unusedVariables false
set_option linter.unusedSimpArgs false
set_option maxHeartbeats 2000000 in
set_option maxRecDepth 100000 in
theorem first_any {e : S137} {j : Int} (h0 : e.f1 ≤ j) (h1 : j < e.f3) (ha : -16777216 ≤ e.f0 ∧ e.f0 ≤ 16777216) (hb : -16777216 ≤ e.f2 ∧ e.f2 ≤ 16777216) (hc : -16777216 ≤ e.f1) (hd : e.f3 ≤ 16777216) (w : World) :
    Calls Try.prog 94 #[.agg (e137 e).toArray, .int .i64 j] w fun x w' => x = .returned (.int .i64 (firstF e j)) ∧ Below w.heap.size w w' := by
  obtain ⟨x0, y0, x1, y1, by_⟩ := e
  unfold e137
  dsimp only at *
  show Calls Try.prog _ #[.agg #[.int .i64 x0, .int .i64 y0, .int .i64 x1, .int .i64 y1, .int .i64 by_], .int .i64 j] w _
  have p1 : -1125899906842624 ≤ 2 * (y1 - y0) * x0 ∧ 2 * (y1 - y0) * x0 ≤ 1125899906842624 := by
    have m1 : 0 ≤ 2 * (y1 - y0) * (x0 + 16777216) := Int.mul_nonneg (by omega) (by omega)
    have m2 : 0 ≤ 2 * (y1 - y0) * (16777216 - x0) := Int.mul_nonneg (by omega) (by omega)
    rw [Int.mul_add] at m1
    rw [Int.mul_sub] at m2
    omega
  have p2 : -2251799813685248 ≤ (x1 - x0) * (2 * j + 1 - 2 * y0) ∧ (x1 - x0) * (2 * j + 1 - 2 * y0) ≤ 2251799813685248 := by
    have m1 : 0 ≤ (2 * j + 1 - 2 * y0) * (x1 - x0 + 33554432) := Int.mul_nonneg (by omega) (by omega)
    have m2 : 0 ≤ (2 * j + 1 - 2 * y0) * (33554432 - (x1 - x0)) := Int.mul_nonneg (by omega) (by omega)
    rw [Int.mul_add] at m1
    rw [Int.mul_sub] at m2
    rw [Int.mul_comm (x1 - x0)]
    omega
  have hin := firstF_in (e := ⟨x0, y0, x1, y1, by_⟩) (j := j) (L := -16777216) (H := 16777216) h0 h1 ha.1 hb.1 ha.2 hb.2
  have hF : firstF ⟨x0, y0, x1, y1, by_⟩ j = (if 0 < Int.tmod (2 * (y1 - y0) * x0 + (x1 - x0) * (2 * j + 1 - 2 * y0) - (y1 - y0)) (2 * (y1 - y0)) then Int.tdiv (2 * (y1 - y0) * x0 + (x1 - x0) * (2 * j + 1 - 2 * y0) - (y1 - y0)) (2 * (y1 - y0)) + 1 else Int.tdiv (2 * (y1 - y0) * x0 + (x1 - x0) * (2 * j + 1 - 2 * y0) - (y1 - y0)) (2 * (y1 - y0))) := rfl
  have hq : -16777217 ≤ Int.tdiv (2 * (y1 - y0) * x0 + (x1 - x0) * (2 * j + 1 - 2 * y0) - (y1 - y0)) (2 * (y1 - y0)) ∧ Int.tdiv (2 * (y1 - y0) * x0 + (x1 - x0) * (2 * j + 1 - 2 * y0) - (y1 - y0)) (2 * (y1 - y0)) ≤ 16777216 := by
    rw [hF] at hin
    split at hin <;> omega
  have HF := Aside0.mk hF
  clear hin hF
  have k1 : IntKind.i64.wrap (2 * (y1 - y0) * x0) = 2 * (y1 - y0) * x0 := IntWalk.i64_in _ (by omega)
  have k2 : IntKind.i64.wrap ((x1 - x0) * (2 * j + 1 - 2 * y0)) = (x1 - x0) * (2 * j + 1 - 2 * y0) := IntWalk.i64_in _ (by omega)
  go_enter Try.func94, Try.ntmps94
  go_wp2
  all_goals go_ret
  · rw [HF.out, if_pos (by omega)]
    exact ⟨rfl, below_alloc (Below.refl _ _) _⟩
  · rw [HF.out, if_neg (by omega)]
    exact ⟨rfl, below_alloc (Below.refl _ _) _⟩
end Go.Proofs.Yteoonjnmghponaa.H
namespace Go.Proofs.Yteoonjnmghponaa.H
open Go.RowKit Go.Proofs.Yteoonjnmghponaa.F Go.Proofs.YteoonjnmghponaaW.PrintWords Go.Proofs.YteoonjnmghponaaW.PrintLast Go.Proofs.YteoonjnmghponaaW.PrintMore
set_option linter.unusedVariables false
set_option linter.unusedSimpArgs false
/-- A cell of a whole number. -/
abbrev Ci (g : Nat) (j : Int) (W : World) : Prop := W.heap[g]? = some (.cells #[.int .i64 j] 3 (0, 0))
set_option maxHeartbeats 1000000 in
theorem pred_any {gj : Nat} {j : Int} {W : World} (h : Ci gj j W) (e : S137) :
    Calls Try.prog 93 #[.agg (e137 e).toArray, .pointer (some ⟨gj, 0, none⟩)] W fun x w' => x = .returned (.bool (decide (e.f3 ≤ j))) ∧ Below W.heap.size W w' := by
  obtain ⟨x0, y0, x1, y1, by_⟩ := e
  unfold e137
  dsimp only at *
  show Calls Try.prog _ #[.agg #[.int .i64 x0, .int .i64 y0, .int .i64 x1, .int .i64 y1, .int .i64 by_], .pointer (some ⟨gj, 0, none⟩)] W _
  have h2 := blk_below h (below_alloc (Below.refl _ _) (.cells #[.int .i64 x0, .int .i64 y0, .int .i64 x1, .int .i64 y1, .int .i64 by_] 137))
  have hc : (W.alloc (.cells #[.int .i64 x0, .int .i64 y0, .int .i64 x1, .int .i64 y1, .int .i64 by_] 137)).cell? ⟨gj, 0, none⟩ = some (.int .i64 j) := (blk_cell h2 0).trans rfl
  clear h2 h
  go_enter Try.func93, Try.ntmps93
  go_wp2
  go_ret
  exact ⟨rfl, below_alloc (Below.refl _ _) _⟩
def idxE (j : Int) : List S137 → Nat → Int
  | [], _ => -1
  | x :: r, i => if x.f3 ≤ j then i else idxE j r (i + 1)
theorem idxE_spec (j : Int) : ∀ (l : List S137) (i : Nat), (idxE j l i = -1 ∧ ∀ x ∈ l, ¬ x.f3 ≤ j) ∨ ∃ k, k < l.length ∧ idxE j l i = ((i + k : Nat) : Int) ∧ (∀ x ∈ l.take k, ¬ x.f3 ≤ j) ∧ (l.getD k z137).f3 ≤ j
  | [], i => .inl ⟨rfl, by simp⟩
  | x :: r, i => by
    unfold idxE
    by_cases h : x.f3 ≤ j
    · rw [if_pos h]
      exact .inr ⟨0, by simp, by simp, by simp, by simpa using h⟩
    · rw [if_neg h]
      rcases idxE_spec j r (i + 1) with ⟨h1, h2⟩ | ⟨k, h1, h2, h3, h4⟩
      · refine .inl ⟨h1, fun y hy => ?_⟩
        rcases List.mem_cons.1 hy with rfl | hy
        · exact h
        · exact h2 y hy
      · refine .inr ⟨k + 1, by simpa using h1, by rw [h2]; congr 1; omega, fun y hy => ?_, by simpa using h4⟩
        rw [List.take_succ_cons] at hy
        rcases List.mem_cons.1 hy with rfl | hy
        · exact h
        · exact h3 y hy
set_option maxHeartbeats 2000000 in
set_option maxRecDepth 100000 in
theorem index_any {w : World} {A : Option Addr} {c : Nat} {xs : List S137} {gj : Nat} {j : Int} (hC : Kd.C k137 w A xs.length xs) (hl : xs.length < 4000000000) (hg : Ci gj j w) :
    Calls Try.prog 109 #[.slice A xs.length c, .func (.func 93) #[] #[.pointer (some ⟨gj, 0, none⟩)]] w fun e w' => e = .returned (.int .i64 (idxE j xs 0)) ∧ Below w.heap.size w w' := by
  have HC := Aside0.mk hC
  have HJ := Aside0.mk hg
  clear hC hg
  obtain ⟨F, hF⟩ : ∃ z, z = idxE j xs 0 := ⟨_, rfl⟩
  rw [← hF]
  have HF := Aside0.mk hF
  clear hF
  go_enter Try.func109, Try.ntmps109
  go_wp2
  go_loopg [5, 8] xs.length (fun kx s5 s8 wr => ∃ (i : Nat), s8 = .int .i64 i ∧ i ≤ xs.length ∧ xs.length - i ≤ kx ∧ Aside0 (F = idxE j (xs.drop i) i) ∧ Aside0 (Below w.heap.size w wr))
  case atStart => exact ⟨0, rfl, Nat.zero_le _, Nat.le_refl _, HF, ⟨Below.refl _ _⟩⟩
  case round =>
    clear HF
    obtain ⟨i, rfl, hin, hkx, HF, HBw⟩ := hrel
    by_cases hlt : i < xs.length
    · have hltz : (i : Int) < (xs.length : Int) := by omega
      obtain ⟨ad, e, q0, q1, q2, q3, q4⟩ := at_T137 (Kd.C_below HC.out HBw.out) i (by omega) (by omega)
      subst e
      rw [Int.toNat_natCast] at q0 q1 q2 q3 q4
      have hg2 : xs.getD i z137 = xs[i] := by rw [List.getD_eq_getElem?_getD, List.getElem?_eq_getElem hlt]; rfl
      rw [hg2] at q0 q1 q2 q3 q4
      have hF := HF.out
      rw [List.drop_eq_getElem_cons hlt, idxE] at hF
      generalize xs[i] = x at *
      have hp := pred_any (blk_below HJ.out HBw.out) x
      obtain ⟨x0, y0, x1, y1, by_⟩ := x
      unfold e137 at hp
      dsimp only at q0 q1 q2 q3 q4 hF hp
      change Calls Try.prog _ #[.agg #[.int .i64 x0, .int .i64 y0, .int .i64 x1, .int .i64 y1, .int .i64 by_], _] _ _ at hp
      have HP := Aside0.mk hp
      have HF2 := Aside0.mk hF
      clear hp hF HF
      by_cases hy : y1 ≤ j
      · have hd : decide (y1 ≤ j) = true := decide_eq_true hy
        go_wp2_with (go_at_call 93; ((with_reducible refine HP.out.mono ?_); rintro e w1 ⟨rfl, hb1⟩; have HB1 := Aside0.mk (below_then HBw.out HBw.out.size hb1); clear hb1))
        go_ret
        rw [HF2.out, if_pos hy]
        exact ⟨rfl, HB1.out⟩
      · have hd : decide (y1 ≤ j) = false := decide_eq_false hy
        go_wp2_with (go_at_call 93; ((with_reducible refine HP.out.mono ?_); rintro e w1 ⟨rfl, hb1⟩; have HB1 := Aside0.mk (below_then HBw.out HBw.out.size hb1); clear hb1))
        go_roundg (xs.length - (i + 1))
        case measure => omega
        case rel => exact ⟨i + 1, by go_num, by omega, Nat.le_refl _, ⟨by rw [HF2.out, if_neg (by omega)]⟩, HB1⟩
    · have hltz : ¬ (i : Int) < (xs.length : Int) := by omega
      have hF := HF.out
      rw [List.drop_eq_nil_of_le (by omega)] at hF
      have hF2 : F = -1 := hF
      have HF2 := Aside0.mk hF2
      clear hF hF2
      go_wp2
      go_ret
      exact ⟨by rw [HF2.out]; rfl, HBw.out⟩
/-- The cells of an element of a row of one's own. -/
theorem own137 {W : World} {base : Nat} {ok : Nat → Prop} {g n cap : Nat} {xs : List S137} (h : k137.R 137 W base ok (.slice (some ⟨g, 0, none⟩) n cap) xs) (i : Nat) (hi : i < xs.length) :
    (W.cell? ⟨g, i * 5, none⟩ = some (.int .i64 (xs.getD i z137).f0) ∧ W.cell? ⟨g, i * 5 + 1, none⟩ = some (.int .i64 (xs.getD i z137).f1) ∧ W.cell? ⟨g, i * 5 + 2, none⟩ = some (.int .i64 (xs.getD i z137).f2) ∧ W.cell? ⟨g, i * 5 + 3, none⟩ = some (.int .i64 (xs.getD i z137).f3) ∧ W.cell? ⟨g, i * 5 + 4, none⟩ = some (.int .i64 (xs.getD i z137).f4)) ∧
    (W.frozen? ⟨g, i * 5, none⟩ = false ∧ W.frozen? ⟨g, i * 5 + 1, none⟩ = false ∧ W.frozen? ⟨g, i * 5 + 2, none⟩ = false ∧ W.frozen? ⟨g, i * 5 + 3, none⟩ = false ∧ W.frozen? ⟨g, i * 5 + 4, none⟩ = false) := by
  have hn := (Kd.R_reads' h).1
  obtain ⟨c, hc, hm, h1, h2⟩ := Kd.R_elem h z137 i (by omega) (by omega)
  rw [Int.toNat_natCast] at hm h1 h2
  obtain rfl := k137_openM hm
  exact ⟨⟨h1 0 _ rfl, h1 1 _ rfl, h1 2 _ rfl, h1 3 _ rfl, h1 4 _ rfl⟩, h2 0, h2 1, h2 2, h2 3, h2 4⟩
theorem set137 {W : World} {base : Nat} {g n cap : Nat} {xs : List S137} (h : k137.R 137 W base (fun _ => True) (.slice (some ⟨g, 0, none⟩) n cap) xs) (i : Nat) (hi : i < xs.length) (x : S137) :
    k137.R 137 (W.setCells g (i * 5) (e137 x)) base (fun _ => True) (.slice (some ⟨g, 0, none⟩) n cap) (xs.set i x) ∧ W.grownBy (W.setCells g (i * 5) (e137 x)) (some g) := by
  have hn := (Kd.R_reads' h).1
  obtain ⟨c, hc, hm, h1, h2⟩ := Kd.R_elem h z137 i (by omega) (by omega)
  rw [Int.toNat_natCast] at hm h1 h2
  have := Kd.R_seg (okp := fun _ => False) h (i : Int) (by omega) (by omega) (c := c) (seg := e137 x) (j := 0) hc (by rw [Int.toNat_natCast]; exact h1) (by show 0 + 5 ≤ 5; omega) (x' := x) (by
    have e : c.take 0 ++ e137 x ++ c.drop (0 + (e137 x).length) = e137 x := by
      rw [List.take_zero, List.nil_append, List.drop_eq_nil_of_le (by rw [hc]; exact Nat.le_refl 5), List.append_nil]
    rw [e]
    exact k137_mkM _ _ _ x) (fun _ hk => hk.elim)
  rw [Int.toNat_natCast, Nat.add_zero] at this
  exact this
/-- What lies behind the row's end is written. -/
theorem spare137 {W : World} {base : Nat} {g n cap : Nat} {xs : List S137} (h : k137.R 137 W base (fun _ => True) (.slice (some ⟨g, 0, none⟩) n cap) xs) (o : Nat) (vs : List Value) (ho : n * 5 ≤ o) (he : o + vs.length ≤ cap * 5) :
    k137.R 137 (W.setCells g o vs) base (fun _ => True) (.slice (some ⟨g, 0, none⟩) n cap) xs ∧ W.grownBy (W.setCells g o vs) (some g) := by
  obtain ⟨hok, inner, ho1, hr⟩ := h
  obtain ⟨ho2, ho3⟩ := ho1
  rcases ho3 with ⟨hv, _⟩ | ⟨g', cap', cur, hv, hb, hh, hnc, hcm, hcs, ht⟩
  · cases hv
  injection hv with ha hx hc
  injection ha with ha
  injection ha with hgg
  subst hgg; subst hc
  have hcs5 : cur.size = cap * 5 := hcs
  obtain ⟨cur', h1, h2, h3⟩ := setCells_row vs o W cur hh (by omega)
  obtain ⟨s1, s2, s3, s4⟩ := setCells_same g vs o W
  refine ⟨⟨hok, inner, ⟨ho2, .inr ⟨g, cap, cur', by rw [← hx], hb, h1, hnc, hcm, by rw [h2, hcs], ?_⟩⟩, hr.1, fun j p hp => ?_⟩, s1, s2, s3, by omega, fun k hk hne => setCells_far vs o k (fun e => hne (by rw [e]))⟩
  · have hn5 : xs.length * 5 ≤ o := by rw [← hx]; exact ho
    have hq : cur.toList.length = cap * 5 := by rw [Array.length_toList]; exact hcs5
    have ht' : cur.toList.take (xs.length * 5) = inner := ht
    rw [h3]
    show (cur.toList.take o ++ vs ++ cur.toList.drop (o + vs.length)).take (xs.length * 5) = inner
    rw [List.append_assoc, List.take_append_of_le_length (by rw [List.length_take, hq]; omega), List.take_take, Nat.min_eq_left hn5]
    exact ht'
  · have := hr.2 j p hp
    rw [k137_openM this]
    exact k137_mkM _ _ _ _
theorem run_clear137 (w : World) (ty : TypeId) (g i n c : Nat) (hn : 0 < n) (hc : ∀ t, t < n * 5 → (w.cell? ⟨g, i * 5 + t, none⟩).isSome = true) (hf : ∀ t, t < n * 5 → w.frozen? ⟨g, i * 5 + t, none⟩ = false) :
    (Builtin.clear_ #[59] ty #[.slice (some ⟨g, i * 5, none⟩) n c]).run Try.prog w = .ok (.tuple #[]) (w.setCells g (i * 5) (Builtin.zeroCells #[.int .i64 0, .int .i64 0, .int .i64 0, .int .i64 0, .int .i64 0] n).toList) := by
  have hl : (Builtin.zeroCells #[.int .i64 0, .int .i64 0, .int .i64 0, .int .i64 0, .int .i64 0] n).toList.length = n * 5 := by
    simp [Builtin.zeroCells]
  have hst := run_storeCells_cells (P := Try.prog) g (i * 5) (Builtin.zeroCells #[.int .i64 0, .int .i64 0, .int .i64 0, .int .i64 0, .int .i64 0] n).toList 0 w (by rw [hl]; simpa using hc) (by rw [hl]; simpa using hf) (by
    intro v hv
    have : v = .int .i64 0 := by
      simp [Builtin.zeroCells] at hv
      obtain ⟨a, ha, rfl⟩ := hv
      have h5 : a % 5 < 5 := Nat.mod_lt _ (by decide)
      rcases (show a % 5 = 0 ∨ a % 5 = 1 ∨ a % 5 = 2 ∨ a % 5 = 3 ∨ a % 5 = 4 by omega) with h | h | h | h | h <;> simp [h]
    rw [this]
    rfl)
  simp only [Nat.add_zero] at hst
  obtain ⟨m, rfl⟩ : ∃ m, n = m + 1 := ⟨n - 1, by omega⟩
  have hz : ∀ w, (zeroValue 137).run Try.prog w = .ok (.agg #[.int .i64 0, .int .i64 0, .int .i64 0, .int .i64 0, .int .i64 0]) w := Try.zeroValue137
  simp [Builtin.clear_, run_underlying Try.underlying59, hz, Value.cells, hst]
end Go.Proofs.Yteoonjnmghponaa.H
namespace Go.Proofs.Yteoonjnmghponaa.H
open Go.RowKit Go.Proofs.Yteoonjnmghponaa.F Go.Proofs.YteoonjnmghponaaW.PrintWords Go.Proofs.YteoonjnmghponaaW.PrintLast Go.Proofs.YteoonjnmghponaaW.PrintMore
set_option linter.unusedVariables false
set_option linter.unusedSimpArgs false
def kpE (j : Int) (x : S137) : Bool := decide (j < x.f3)
/-- How far the deleting has come. -/
structure De (j : Int) (xs zs : List S137) (i m : Nat) : Prop where
  len : zs.length = xs.length
  lo : zs.take i = (xs.take m).filter (kpE j)
  hi : zs.drop m = xs.drop m
  lt : i < m
  le : m ≤ xs.length
theorem De.get {j : Int} {xs zs : List S137} {i m : Nat} (h : De j xs zs i m) (hm : m < xs.length) : zs.getD m z137 = xs[m] := by
  have := congrArg (fun l => l[0]?) h.hi
  simp only [List.getElem?_drop, Nat.add_zero] at this
  rw [List.getD_eq_getElem?_getD, this, List.getElem?_eq_getElem hm]
  rfl
theorem De.keep {j : Int} {xs zs : List S137} {i m : Nat} (h : De j xs zs i m) (hm : m < xs.length) (hk : j < xs[m].f3) : De j xs (zs.set i xs[m]) (i + 1) (m + 1) := by
  have hl := h.len
  have hlt := h.lt
  refine ⟨by rw [List.length_set, hl], ?_, ?_, by omega, by omega⟩
  · rw [List.take_succ_eq_append_getElem hm, List.filter_append, ← h.lo, List.take_succ_eq_append_getElem (by rw [List.length_set]; omega), List.getElem_set_self, List.take_set_of_le (Nat.le_refl _)]
    simp [kpE, hk]
  · have := congrArg (List.drop 1) h.hi
    rw [List.drop_drop, List.drop_drop] at this
    rw [List.drop_set_of_lt (by omega)]
    exact this
theorem De.skip {j : Int} {xs zs : List S137} {i m : Nat} (h : De j xs zs i m) (hm : m < xs.length) (hk : ¬ j < xs[m].f3) : De j xs zs i (m + 1) := by
  have hlt := h.lt
  refine ⟨h.len, ?_, ?_, by omega, by omega⟩
  · rw [List.take_succ_eq_append_getElem hm, List.filter_append, ← h.lo]
    simp [kpE, hk]
  · have := congrArg (List.drop 1) h.hi
    rw [List.drop_drop, List.drop_drop] at this
    exact this
theorem De.start {j : Int} {xs : List S137} {k : Nat} (hk : k < xs.length) (h1 : ∀ x ∈ xs.take k, ¬ x.f3 ≤ j) (h2 : (xs.getD k z137).f3 ≤ j) : De j xs xs k (k + 1) := by
  refine ⟨rfl, ?_, rfl, by omega, by omega⟩
  rw [List.take_succ_eq_append_getElem hk, List.filter_append]
  have e1 : (xs.take k).filter (kpE j) = xs.take k := List.filter_eq_self.2 (fun x hx => by have := h1 x hx; simp [kpE]; omega)
  have e2 : xs.getD k z137 = xs[k] := by rw [List.getD_eq_getElem?_getD, List.getElem?_eq_getElem hk]; rfl
  rw [e2] at h2
  rw [e1]
  simp [kpE]
  omega
theorem De.done {j : Int} {xs zs : List S137} {i : Nat} (h : De j xs zs i xs.length) : zs.take i = xs.filter (kpE j) := by
  rw [h.lo, List.take_length]
theorem gb_below {w W W' : World} {r : Option Nat} (h : w.grownBy W r) (hb : Below W.heap.size W W') : w.grownBy W' r :=
  ⟨hb.os.trans h.os, hb.tape.trans h.tape, hb.output.trans h.output, Nat.le_trans h.size hb.size, fun k hk hn => (hb.block k (Nat.lt_of_lt_of_le hk h.size)).trans (h.block k hk hn)⟩
theorem gb_trans {w W W' : World} {r : Option Nat} (h : w.grownBy W r) (hb : W.grownBy W' r) : w.grownBy W' r :=
  ⟨hb.os.trans h.os, hb.tape.trans h.tape, hb.output.trans h.output, Nat.le_trans h.size hb.size, fun k hk hn => (hb.block k (Nat.lt_of_lt_of_le hk h.size) hn).trans (h.block k hk hn)⟩
set_option maxHeartbeats 4000000 in
set_option maxRecDepth 100000 in
theorem delete_any {w : World} {base : Nat} {v : Value} {xs : List S137} {gj : Nat} {j : Int} (hO : k137.R 137 w base (fun _ => True) v xs) (hl : xs.length < 4000000000) (hg : Ci gj j w) :
    Calls Try.prog 92 #[v, .func (.func 93) #[] #[.pointer (some ⟨gj, 0, none⟩)]] w fun e w' => ∃ v', e = .returned v' ∧ k137.R 137 w' base (fun _ => True) v' (xs.filter (kpE j)) ∧ w.grownBy w' v.ownBlock ∧ v'.ownBlock = v.ownBlock := by
  rcases idxE_spec j xs 0 with ⟨h1, h2⟩ | ⟨k, h1, h2, h3, h4⟩
  · have hfl : xs.filter (kpE j) = xs := List.filter_eq_self.2 (fun x hx => by have := h2 x hx; simp [kpE]; omega)
    rw [hfl]
    obtain ⟨A, c, hv, hnc, hC⟩ := Kd.R_reads hO
    subst hv
    have hix := index_any (c := c) hC hl hg
    rw [h1] at hix
    have HIX := Aside0.mk hix
    have HO := Aside0.mk hO
    clear hix hO hC hg hfl h1 h2
    go_enter Try.func92, Try.ntmps92
    go_wp2_with (go_at_call 109; ((with_reducible refine HIX.out.mono ?_); rintro e w1 ⟨rfl, hb1⟩; have HB1 := Aside0.mk hb1; clear hb1))
    go_ret
    exact ⟨_, rfl, Kd.R_below HO.out HB1.out, ⟨HB1.out.os, HB1.out.tape, HB1.out.output, HB1.out.size, fun k hk _ => HB1.out.block k hk⟩, rfl⟩
  · obtain ⟨g, cap, hv, hgb, hgl, cells, hcells⟩ := Kd.R_form hO (by omega)
    subst hv
    have hC := (Kd.R_reads' hO).2.2
    have hix := index_any (c := cap) hC hl hg
    rw [h2, Nat.zero_add] at hix
    have HIX := Aside0.mk hix
    have HO := Aside0.mk hO
    have HD := Aside0.mk (De.start h1 h3 h4)
    have HJ := Aside0.mk hg
    have HNE : Aside0 (gj ≠ g) := ⟨fun e => by subst e; have := hg.symm.trans hcells; injection this with this; injection this with _ h; cases h⟩
    have HGL := Aside0.mk hgl
    clear hix hO hC hg h2 h3 h4 hcells hgl hgb
    have hk1 : ((k : Int) == -1) = false := beq_eq_false_iff_ne.2 (by omega)
    go_enter Try.func92, Try.ntmps92
    go_wp2_with (go_at_call 109; ((with_reducible refine HIX.out.mono ?_); rintro e w1 ⟨rfl, hb1⟩; have HB1 := Aside0.mk hb1; clear hb1))
    go_loopg [5, 6, 7] xs.length (fun kx s5 s6 s7 wr => ∃ (i m : Nat) (zs : List S137), s5 = .int .i64 i ∧ s6 = .int .i64 m ∧ m ≤ xs.length ∧ xs.length - m ≤ kx ∧ Aside0 (De j xs zs i m) ∧ Aside0 (k137.R 137 wr base (fun _ => True) (.slice (some ⟨g, 0, none⟩) xs.length cap) zs) ∧ Aside0 (w.grownBy wr (some g)))
    case atStart => exact ⟨k, k + 1, xs, rfl, by go_num, by omega, by omega, HD, ⟨Kd.R_below HO.out HB1.out⟩, ⟨⟨HB1.out.os, HB1.out.tape, HB1.out.output, HB1.out.size, fun k hk _ => HB1.out.block k hk⟩⟩⟩
    case round =>
      clear HD HO
      obtain ⟨i, m, zs, rfl, rfl, hmn, hkx, HD, HO, HG⟩ := hrel
      have hlen := HD.out.len
      have hlt0 := HD.out.lt
      by_cases hlt : m < xs.length
      · have hltz : (m : Int) < (xs.length : Int) := by omega
        obtain ⟨⟨q0, q1, q2, q3, q4⟩, _⟩ := own137 HO.out m (by omega)
        have hget := HD.out.get hlt
        rw [hget] at q0 q1 q2 q3 q4
        obtain ⟨x, hx⟩ : ∃ z, z = xs[m] := ⟨_, rfl⟩
        rw [← hx] at q0 q1 q2 q3 q4
        have HX := Aside0.mk hx
        clear hx hget
        obtain ⟨x0, y0, x1, y1, by_⟩ := x
        dsimp only at q0 q1 q2 q3 q4
        go_upto_region 8 with fail
        have hb7 := below_alloc (Below.refl wr.heap.size wr) (.cells #[.int .i64 x0, .int .i64 y0, .int .i64 x1, .int .i64 y1, .int .i64 by_] 137)
        have B7 := Aside0.mk (blk_new wr (.cells #[.int .i64 x0, .int .i64 y0, .int .i64 x1, .int .i64 y1, .int .i64 by_] 137))
        have hj7 : Ci gj j (wr.alloc (.cells #[.int .i64 x0, .int .i64 y0, .int .i64 x1, .int .i64 y1, .int .i64 by_] 137)) := blk_below ((HG.out.block gj (blk_lt HJ.out) (fun e => HNE.out (by injection e))).trans HJ.out) hb7
        have HO7 := Aside0.mk (Kd.R_below HO.out hb7)
        have HG7 := Aside0.mk (gb_below HG.out hb7)
        have HGK : Aside0 (g ≠ wr.heap.size) := ⟨by have := HGL.out; have := HG.out.size; omega⟩
        have hp := pred_any hj7 ⟨x0, y0, x1, y1, by_⟩
        change Calls Try.prog _ #[.agg #[.int .i64 x0, .int .i64 y0, .int .i64 x1, .int .i64 y1, .int .i64 by_], _] _ (fun x w' => x = .returned (.bool (decide (y1 ≤ j))) ∧ _) at hp
        have HP := Aside0.mk hp
        clear hp
        clear hb7 hj7 q0 q1 q2 q3 q4 HO HG
        generalize wr.alloc (.cells #[.int .i64 x0, .int .i64 y0, .int .i64 x1, .int .i64 y1, .int .i64 by_] 137) = wk at *
        generalize wr.heap.size = gk at *
        have k0 : wk.cell? ⟨gk, 0, none⟩ = some (.int .i64 x0) := (blk_cell B7.out 0).trans rfl
        have k1 : wk.cell? ⟨gk, 1, none⟩ = some (.int .i64 y0) := (blk_cell B7.out 1).trans rfl
        have k2 : wk.cell? ⟨gk, 2, none⟩ = some (.int .i64 x1) := (blk_cell B7.out 2).trans rfl
        have k3 : wk.cell? ⟨gk, 3, none⟩ = some (.int .i64 y1) := (blk_cell B7.out 3).trans rfl
        have k4 : wk.cell? ⟨gk, 4, none⟩ = some (.int .i64 by_) := (blk_cell B7.out 4).trans rfl
        by_cases hy : j < y1
        · have hd : decide (y1 ≤ j) = false := decide_eq_false (by omega)
          have hil : i < zs.length := by omega
          have hiz : (i : Int) < (xs.length : Int) := by omega
          go_wp2_with (go_at_call 93; ((with_reducible refine HP.out.mono ?_); rintro e w2 ⟨rfl, hb2⟩; have HO2 := Aside0.mk (Kd.R_below HO7.out hb2); have HG2 := Aside0.mk (gb_below HG7.out hb2); have r0 := pw_cell_below hb2 k0; have r1 := pw_cell_below hb2 k1; have r2 := pw_cell_below hb2 k2; have r3 := pw_cell_below hb2 k3; have r4 := pw_cell_below hb2 k4; obtain ⟨⟨p0, p1, p2, p3, p4⟩, f0, f1, f2, f3, f4⟩ := own137 HO2.out i hil; clear hb2))
          obtain ⟨hs1, hs2⟩ := set137 HO2.out i hil ⟨x0, y0, x1, y1, by_⟩
          go_roundg (xs.length - (m + 1))
          case measure => omega
          case rel => exact ⟨i + 1, m + 1, zs.set i ⟨x0, y0, x1, y1, by_⟩, by go_num, by go_num, by omega, Nat.le_refl _, ⟨by have := HD.out.keep hlt (by rw [← HX.out]; exact hy); rw [← HX.out] at this; exact this⟩, ⟨hs1⟩, ⟨gb_trans HG2.out hs2⟩⟩
        · have hd : decide (y1 ≤ j) = true := decide_eq_true (by omega)
          go_wp2_with (go_at_call 93; ((with_reducible refine HP.out.mono ?_); rintro e w2 ⟨rfl, hb2⟩; have HO2 := Aside0.mk (Kd.R_below HO7.out hb2); have HG2 := Aside0.mk (gb_below HG7.out hb2); clear hb2))
          go_roundg (xs.length - (m + 1))
          case measure => omega
          case rel => exact ⟨i, m + 1, zs, rfl, by go_num, by omega, Nat.le_refl _, ⟨HD.out.skip hlt (by rw [← HX.out]; show ¬ j < y1; omega)⟩, HO2, HG2⟩
      · have hltz : ¬ (m : Int) < (xs.length : Int) := by omega
        have hme : m = xs.length := by omega
        subst hme
        have hcap := (Kd.R_reads' HO.out).2.1
        have hcl : ∀ ty, (Builtin.clear_ #[59] ty #[.slice (some ⟨g, i * 5, none⟩) (xs.length - i) (cap - i)]).run Try.prog wr = .ok (.tuple #[]) (wr.setCells g (i * 5) (Builtin.zeroCells #[.int .i64 0, .int .i64 0, .int .i64 0, .int .i64 0, .int .i64 0] (xs.length - i)).toList) := fun ty => run_clear137 wr ty g i (xs.length - i) (cap - i) (by omega) (fun t ht => by
          obtain ⟨c, hc, hm, h1, h2⟩ := Kd.R_elem HO.out z137 ((i + t / 5 : Nat) : Int) (by omega) (by omega)
          rw [Int.toNat_natCast] at h1
          have h5 : t % 5 < c.length := by rw [hc]; exact Nat.mod_lt _ (by decide)
          have := h1 (t % 5) _ (List.getElem?_eq_getElem h5)
          have e5 : k137.sz = 5 := rfl
          rw [e5, show (i + t / 5) * 5 + t % 5 = i * 5 + t by omega] at this
          rw [this]
          rfl) (fun t ht => by
          obtain ⟨c, hc, hm, h1, h2⟩ := Kd.R_elem HO.out z137 ((i + t / 5 : Nat) : Int) (by omega) (by omega)
          rw [Int.toNat_natCast] at h2
          have := h2 (t % 5)
          have e5 : k137.sz = 5 := rfl
          rw [e5, show (i + t / 5) * 5 + t % 5 = i * 5 + t by omega] at this
          exact this)
        have hiz : (i : Int) ≤ (xs.length : Int) := by omega
        have hic : (i : Int) ≤ (cap : Int) := by omega
        have hzl : (Builtin.zeroCells #[.int .i64 0, .int .i64 0, .int .i64 0, .int .i64 0, .int .i64 0] (xs.length - i)).toList.length = (xs.length - i) * 5 := by simp [Builtin.zeroCells]
        obtain ⟨hs1, hs2⟩ := spare137 (Kd.R_take (m := i) HO.out (by omega)) (i * 5) (Builtin.zeroCells #[.int .i64 0, .int .i64 0, .int .i64 0, .int .i64 0, .int .i64 0] (xs.length - i)).toList (Nat.le_refl _) (by rw [hzl]; omega)
        rw [HD.out.done] at hs1
        have HR := Aside0.mk hs1
        have HG2 := Aside0.mk (gb_trans HG.out hs2)
        clear hs1 hs2 hzl
        generalize (Builtin.zeroCells #[.int .i64 0, .int .i64 0, .int .i64 0, .int .i64 0, .int .i64 0] (xs.length - i)).toList = zc at *
        go_wp2
        go_ret
        exact ⟨_, rfl, HR.out, HG2.out, rfl⟩
end Go.Proofs.Yteoonjnmghponaa.H
namespace Go.Proofs.Yteoonjnmghponaa.H
open Go.RowKit Go.Proofs.Yteoonjnmghponaa.F Go.Proofs.YteoonjnmghponaaW.PrintWords Go.Proofs.YteoonjnmghponaaW.PrintLast Go.Proofs.YteoonjnmghponaaW.PrintMore
set_option linter.unusedVariables false
set_option linter.unusedSimpArgs false
/-- The counts of a band in memory. -/
abbrev Ct (g : Nat) (ct : List Int) (W : World) : Prop := W.heap[g]? = some (.cells (ct.map (Value.int .i64)).toArray 3 (0, 0))
/-- What the counting closure holds. -/
structure En (gb gt gm g n : Nat) (X Wd top : Int) (W : World) : Prop where
  b : ∃ q, W.heap[gb]? = some (.cells #[.int .i64 q, .slice (some ⟨g, 0, none⟩) n n] 61 (0, 0))
  t : Ci gt top W
  m : ∃ Y H cv, W.heap[gm]? = some (.cells #[.int .i64 X, .int .i64 Y, .int .i64 Wd, .int .i64 H, cv] 25 (0, 0))
  nb : gb ≠ g
  nt : gt ≠ g
  nm : gm ≠ g
theorem En.grown {gb gt gm g n : Nat} {X Wd top : Int} {W W' : World} (h : En gb gt gm g n X Wd top W) (hg : W.grownBy W' (some g)) : En gb gt gm g n X Wd top W' := by
  obtain ⟨q, hb⟩ := h.b
  obtain ⟨Y, H, cv, hm⟩ := h.m
  exact ⟨⟨q, (hg.block gb (blk_lt hb) (fun e => h.nb (by injection e))).trans hb⟩, (hg.block gt (blk_lt h.t) (fun e => h.nt (by injection e))).trans h.t, ⟨Y, H, cv, (hg.block gm (blk_lt hm) (fun e => h.nm (by injection e))).trans hm⟩, h.nb, h.nt, h.nm⟩
def addF (o : Nat) (X a b : Int) : Nat → Int → List Int → List Int
  | 0, _, ct => ct
  | k + 1, x, ct => if 64 * x < b then addF o X a b k (x + 1) (ct.set (o + (x - X).toNat) (wrap64 (ct.getD (o + (x - X).toNat) 0 + (min b (64 * x + 64) - max a (64 * x))))) else ct
theorem addF_done {o : Nat} {X a b : Int} {k : Nat} {x : Int} {ct : List Int} (h : ¬ 64 * x < b) : addF o X a b k x ct = ct := by
  cases k with
  | zero => rfl
  | succ k => unfold addF; rw [if_neg h]
theorem addF_len {o : Nat} {X a b : Int} : ∀ (k : Nat) (x : Int) (ct : List Int), (addF o X a b k x ct).length = ct.length
  | 0, _, _ => rfl
  | k + 1, x, ct => by
    unfold addF
    split
    · rw [addF_len k, List.length_set]
    · rfl
def addSpan (X Wd top : Int) (ct : List Int) (s : Int × Int × Int) : List Int := addF ((s.1 / 64 - top) * Wd).toNat X s.2.1 s.2.2 (s.2.2 - 64 * (s.2.1 / 64)).toNat (s.2.1 / 64) ct
set_option maxHeartbeats 4000000 in
set_option maxRecDepth 100000 in
theorem span_any {gb gt gm g n : Nat} {X Wd top j a b : Int} {W : World} {ct : List Int} (h : En gb gt gm g n X Wd top W) (hc : Ct g ct W) (hn : ct.length = n) (hw0 : 1 ≤ Wd) (hw1 : Wd ≤ 512) (hr0 : top ≤ j / 64) (hr1 : (j / 64 - top + 1) * Wd ≤ n)
    (ha : 64 * X ≤ a) (hab : a ≤ b) (hb : b ≤ 64 * (X + Wd)) (hX : -16777216 ≤ X ∧ X ≤ 16777216) (hj : -16777216 ≤ j ∧ j ≤ 16777216) (ht : -16777216 ≤ top) (hnn : n < 4000000000) :
    Calls Try.prog 46 #[.int .i64 j, .int .i64 a, .int .i64 b, .pointer (some ⟨gb, 0, none⟩), .pointer (some ⟨gt, 0, none⟩), .pointer (some ⟨gm, 0, none⟩)] W fun e w' => e = .returned (.tuple #[]) ∧ Ct g (addSpan X Wd top ct (j, a, b)) w' ∧ W.grownBy w' (some g) := by
  obtain ⟨q, hb0⟩ := h.b
  obtain ⟨Y, H, cv, hm0⟩ := h.m
  have b1 : W.cell? ⟨gb, 1, none⟩ = some (.slice (some ⟨g, 0, none⟩) n n) := (blk_cell hb0 1).trans rfl
  have t0 : W.cell? ⟨gt, 0, none⟩ = some (.int .i64 top) := (blk_cell h.t 0).trans rfl
  have m2 : W.cell? ⟨gm, 2, none⟩ = some (.int .i64 Wd) := (blk_cell hm0 2).trans rfl
  have HE := Aside0.mk h
  have HC := Aside0.mk hc
  obtain ⟨F, hF⟩ : ∃ z, z = addSpan X Wd top ct (j, a, b) := ⟨_, rfl⟩
  rw [← hF]
  have HF := Aside0.mk hF
  clear hF hb0 hm0 h hc
  obtain ⟨o, ho⟩ : ∃ z : Nat, (z : Int) = (j / 64 - top) * Wd := ⟨((j / 64 - top) * Wd).toNat, Int.toNat_of_nonneg (Int.mul_nonneg (by omega) (by omega))⟩
  have hoW : (o : Int) + Wd ≤ n := by rw [Int.add_mul, Int.one_mul, ← ho] at hr1; exact hr1
  have k1 : IntKind.i64.wrap ((j / 64 - top) * Wd) = o := by rw [← ho]; exact IntWalk.i64_in _ (by omega)
  go_enter Try.func46, Try.ntmps46
  go_upto_region 0 with fail
  go_quiet (fail)
  have hoN : ((j / 64 - top) * Wd).toNat = o := by omega
  rw [hoN]
  have hF := HF.out
  unfold addSpan at hF
  dsimp only at hF
  rw [hoN] at hF
  have HF2 := Aside0.mk hF
  clear hF HF b1 t0 m2
  have HE2 := Aside0.mk (HE.out.grown (W' := W.drewN nq) ⟨rfl, rfl, rfl, Nat.le_refl _, fun _ _ _ => rfl⟩)
  have HC2 : Aside0 (Ct g ct (W.drewN nq)) := ⟨HC.out⟩
  have HG : Aside0 (W.grownBy (W.drewN nq) (some g)) := ⟨⟨rfl, rfl, rfl, Nat.le_refl _, fun _ _ _ => rfl⟩⟩
  clear HE HC
  generalize W.drewN nq = W1 at *
  clear hoN k1 hr1 ho
  have HWN : Aside0 ((Wd.toNat : Int) = Wd) := ⟨by omega⟩
  go_wp2
  go_loopg [10] ((b - 64 * (a / 64)).toNat) (fun kx s10 wr => ∃ (x : Int) (k : Nat) (ct' : List Int), s10 = .int .i64 x ∧ X ≤ x ∧ x ≤ X + Wd ∧ (b - 64 * x).toNat ≤ k ∧ k ≤ kx ∧ ct'.length = n ∧ Aside0 (F = addF o X a b k x ct') ∧ Aside0 (Ct g ct' wr) ∧ Aside0 (W.grownBy wr (some g)) ∧ Aside0 (En gb gt gm g n X Wd top wr))
  case atStart => exact ⟨a / 64, _, ct, rfl, by omega, by omega, Nat.le_refl _, Nat.le_refl _, hn, HF2, HC2, HG, HE2⟩
  case round =>
    clear HF2 HC2 HG HE2 hn
    obtain ⟨x, k, ct', rfl, hx0, hx1, hk0, hk1, hn, HF, HC, HG, HE⟩ := hrel
    obtain ⟨Y, H, cv, hm0⟩ := HE.out.m
    have m0 : wr.cell? ⟨gm, 0, none⟩ = some (.int .i64 X) := (blk_cell hm0 0).trans rfl
    clear hm0
    by_cases hlt : 64 * x < b
    · obtain ⟨k, rfl⟩ : ∃ k', k = k' + 1 := ⟨k - 1, by omega⟩
      have hF := HF.out
      unfold addF at hF
      rw [if_pos hlt] at hF
      have hix : o + (x - X).toNat < ct'.length := by omega
      have c0 : wr.cell? ⟨g, o + (x - X).toNat, none⟩ = some (.int .i64 (ct'.getD (o + (x - X).toNat) 0)) := by
        rw [blk_cell HC.out]
        simp [List.getD_eq_getElem?_getD, List.getElem?_eq_getElem hix]
      have f0 : wr.frozen? ⟨g, o + (x - X).toNat, none⟩ = false := blk_frozen HC.out _
      have hxW : x - X < Wd.toNat := by have := HWN.out; omega
      have HF2 := Aside0.mk hF
      have HV : Aside0 (∀ v, v = min b (64 * x + 64) - max a (64 * x) → Ct g (ct'.set (o + (x - X).toNat) (wrap64 (ct'.getD (o + (x - X).toNat) 0 + (min b (64 * x + 64) - max a (64 * x))))) (wr.setCell ⟨g, o + (x - X).toNat, none⟩ (.int .i64 (wrap64 (ct'.getD (o + (x - X).toNat) 0 + v))))) := ⟨fun v hv => by
        subst hv
        exact blk_put HC.out _ _ (by simp [List.map_set])⟩
      have HGS : Aside0 (∀ u, wr.grownBy (wr.setCell ⟨g, o + (x - X).toNat, none⟩ u) (some g)) := ⟨fun u => ⟨rfl, rfl, rfl, by simp [World.setCell], fun k hk hn => Below.heap_setCell wr _ u k (fun e => hn (by rw [e]))⟩⟩
      clear hF HF
      generalize ct'.getD (o + (x - X).toNat) 0 = cc at *
      go_wp2
      all_goals (go_roundg k; (case measure => omega); (case rel => exact ⟨x + 1, k, _, by go_num, by omega, by omega, by omega, Nat.le_refl _, by rw [List.length_set]; exact hn, HF2, ⟨HV.out _ (by omega)⟩, ⟨gb_trans HG.out (HGS.out _)⟩, ⟨HE.out.grown (HGS.out _)⟩⟩))
    · have hF := HF.out
      rw [addF_done hlt] at hF
      subst hF
      go_wp2
      go_end0
      exact ⟨rfl, HC.out, HG.out⟩
end Go.Proofs.Yteoonjnmghponaa.H
