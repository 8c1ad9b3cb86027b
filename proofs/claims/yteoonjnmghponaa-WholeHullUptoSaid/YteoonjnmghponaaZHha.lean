/- Package raster: Fill, walked. WholeHull: what the walk's numbers say, in plain Lean. WholeHull: the square filled; the boxes. -/
import Derived.Test.YteoonjnmghponaaZHg9
import Derived.Test.YteoonjnmghponaaZHda
namespace Go.Proofs.Yteoonjnmghponaa.H
open Go.RowKit Go.Proofs.Yteoonjnmghponaa.F Go.Proofs.YteoonjnmghponaaW.PrintWords Go.Proofs.YteoonjnmghponaaW.PrintLast Go.Proofs.YteoonjnmghponaaW.PrintMore
set_option linter.unusedVariables false
set_option linter.unusedSimpArgs false
/-- What masked hands back, as a tuple. -/
theorem MaskE.shape {w w' : World} {xs : List (List S30)} {r0 : Int} {e : Ending} (h : MaskE w xs r0 e w') : ∃ m0 m1 m2 m3 A n c r, e = .returned (.tuple #[.agg #[.int .i64 m0, .int .i64 m1, .int .i64 m2, .int .i64 m3, .slice A n c], .int .i64 r]) := by
  obtain ⟨_, ⟨r, _, _, rfl⟩ | ⟨_, _, rfl⟩ | ⟨_, b, A, c, cov, _, _, _, _, _, _, rfl⟩⟩ := h
  · exact ⟨_, _, _, _, _, _, _, _, rfl⟩
  · exact ⟨_, _, _, _, _, _, _, _, rfl⟩
  · exact ⟨_, _, _, _, _, _, _, _, rfl⟩
/-- The same behind a store into an older block. -/
theorem MaskE.back {w w1 w' wz : World} {xs : List (List S30)} {r0 : Int} {e : Ending} (h : MaskE w1 xs r0 e w') (hb : Below w.heap.size w wz) (hw : w.heap.size ≤ w1.heap.size) (hk : ∀ k, w1.heap.size ≤ k → k < w'.heap.size → wz.heap[k]? = w'.heap[k]?) : MaskE w xs r0 e wz := by
  refine ⟨hb, ?_⟩
  rcases h.2 with h1 | h1 | ⟨h0, b, A, c, cov, h2, h3, h4, h5, h6, h7, h8⟩
  · exact .inl h1
  · exact .inr (.inl h1)
  · exact .inr (.inr ⟨h0, b, A, c, cov, h2, h3, h4, h5, Kd.R_mono (Kd.R_lower (Kd.R_step (Kd.R_bound h6) (fun k hk' hlt => hk k hk'.2.1 hlt)) hw) (fun _ _ => trivial), h7, h8⟩)
set_option maxHeartbeats 8000000 in
set_option maxRecDepth 100000 in
theorem fill_any {w : World} {A : Option Addr} {c k : Nat} {xs : List (List S30)} {r0 : Int} (hC : Kd.C (Kd.slice 30 k30) w A xs.length xs) (hc : xs.length ≤ c) (hl : xs.length ≤ 256) (hx : ∀ c ∈ xs, c.length ≤ 70000) (hr : raster_check.f k xs = some r0) (hr1 : r0 = 0 ∨ r0 = 213 ∨ r0 = 214) (hr2 : r0 = 0 → ∀ c ∈ xs, SmC c) :
    Calls Try.prog 5 #[.slice A xs.length c] w (MaskE w xs r0) := by
  have hb1 := below_alloc (Below.refl w.heap.size w) (.cells #[.int .i64 0, .int .i64 0, .int .i64 0, .int .i64 0, .slice none 0 0] 25)
  have HB1 := Aside0.mk hb1
  have HM := Aside0.mk (masked_any (Kd.C_below hC hb1) hc hl hx hr hr1 hr2)
  have B2 := Aside0.mk (blk_new w (.cells #[.int .i64 0, .int .i64 0, .int .i64 0, .int .i64 0, .slice none 0 0] 25))
  have HS : Aside0 (w.heap.size < (w.alloc (.cells #[.int .i64 0, .int .i64 0, .int .i64 0, .int .i64 0, .slice none 0 0] 25)).heap.size) := ⟨by simp⟩
  clear hC hx hb1
  go_enter Try.func5, Try.ntmps5
  go_upto_region 1 with fail
  generalize w.alloc (.cells #[.int .i64 0, .int .i64 0, .int .i64 0, .int .i64 0, .slice none 0 0] 25) = V at *
  obtain ⟨g, hg⟩ : ∃ g, g = w.heap.size := ⟨_, rfl⟩
  rw [← hg] at B2 HS HB1 ⊢
  have HG := Aside0.mk hg
  clear hg
  go_wp2_with (go_at_call 17; ((with_reducible refine Calls.mono HM.out ?_); rintro e w2 hm; obtain ⟨m0, m1, m2, m3, Am, nm, cm, r, rfl⟩ := hm.shape; have HME := Aside0.mk hm; have b2 := blk_below B2.out hm.1; have f0 := blk_frozen b2 0; have f1 := blk_frozen b2 1; have f2 := blk_frozen b2 2; have f3 := blk_frozen b2 3; have f4 := blk_frozen b2 4; have c0 : w2.cell? ⟨g, 0, none⟩ = some (.int .i64 0) := (blk_cell b2 0).trans rfl; have c1 : w2.cell? ⟨g, 1, none⟩ = some (.int .i64 0) := (blk_cell b2 1).trans rfl; have c2 : w2.cell? ⟨g, 2, none⟩ = some (.int .i64 0) := (blk_cell b2 2).trans rfl; have c3 : w2.cell? ⟨g, 3, none⟩ = some (.int .i64 0) := (blk_cell b2 3).trans rfl; have c4 : w2.cell? ⟨g, 4, none⟩ = some (.slice none 0 0) := (blk_cell b2 4).trans rfl; have HB2 := Aside0.mk b2; clear hm b2))
  obtain ⟨wz, hwz⟩ : ∃ wz, wz = (((((w2.setCell ⟨g, 0, none⟩ (.int .i64 m0)).setCell ⟨g, 1, none⟩ (.int .i64 m1)).setCell ⟨g, 2, none⟩ (.int .i64 m2)).setCell ⟨g, 3, none⟩ (.int .i64 m3)).setCell ⟨g, 4, none⟩ (.slice Am nm cm)) := ⟨_, rfl⟩
  have hbz := put5 HB2.out (.int .i64 m0) (.int .i64 m1) (.int .i64 m2) (.int .i64 m3) (.slice Am nm cm)
  have hgw := grown5 (W := w2) (g := g) (.int .i64 m0) (.int .i64 m1) (.int .i64 m2) (.int .i64 m3) (.slice Am nm cm)
  rw [← hwz] at hbz hgw
  rw [← hwz]
  have z0 : wz.cell? ⟨g, 0, none⟩ = some (.int .i64 m0) := (blk_cell hbz 0).trans rfl
  have z1 : wz.cell? ⟨g, 1, none⟩ = some (.int .i64 m1) := (blk_cell hbz 1).trans rfl
  have z2 : wz.cell? ⟨g, 2, none⟩ = some (.int .i64 m2) := (blk_cell hbz 2).trans rfl
  have z3 : wz.cell? ⟨g, 3, none⟩ = some (.int .i64 m3) := (blk_cell hbz 3).trans rfl
  have z4 : wz.cell? ⟨g, 4, none⟩ = some (.slice Am nm cm) := (blk_cell hbz 4).trans rfl
  have hpost : MaskE w xs r0 (.returned (.tuple #[.agg #[.int .i64 m0, .int .i64 m1, .int .i64 m2, .int .i64 m3, .slice Am nm cm], .int .i64 r])) wz := by
    have hb := HB1.out
    have hm := HME.out.1
    have hgs := HG.out
    have hs := HS.out
    refine HME.out.back ⟨hgw.os.trans (hm.os.trans hb.os), hgw.tape.trans (hm.tape.trans hb.tape), hgw.output.trans (hm.output.trans hb.output), Nat.le_trans hb.size (Nat.le_trans hm.size hgw.size), fun k hk => ?_⟩ (by omega) (fun k h1 h2 => hgw.block k h2 (fun e => by injection e with e; omega))
    have hkg : k < g := by omega
    exact (hgw.block k (by have := hm.size; omega) (fun e => by injection e with e; omega)).trans ((hm.block k (by omega)).trans (hb.block k hkg))
  have HPO := Aside0.mk hpost
  clear hwz hbz hgw hpost c0 c1 c2 c3 c4 f0 f1 f2 f3 f4
  exact bodyPost_ret (v := .tuple #[.agg #[.int .i64 m0, .int .i64 m1, .int .i64 m2, .int .i64 m3, .slice Am nm cm], .int .i64 r]) (by simp [results, Try.results5, go_sem, z0, z1, z2, z3, z4]) rfl HPO.out
end Go.Proofs.Yteoonjnmghponaa.H
namespace Go.Proofs.Yteoonjnmghponaa.H
open Go.RowKit Go.Proofs.Yteoonjnmghponaa.F Go.Proofs.YteoonjnmghponaaW.PrintWords Go.Proofs.YteoonjnmghponaaW.PrintLast Go.Proofs.YteoonjnmghponaaW.PrintMore
set_option linter.unusedVariables false
set_option linter.unusedSimpArgs false
/-! ### Down, Copy -/
theorem down_is {a : Int} (h : -4294967296 ≤ a ∧ a ≤ 4294967296) : serifref21_Down.f a = some (a / 64) := by
  have hd : ∀ r, (0 ≤ r ∧ r < 64 ∧ ∃ q, a - r = 64 * q) → Int.tdiv (a - r) 64 = a / 64 := by
    rintro r ⟨h0, h1, q, hq⟩
    rw [hq, Int.mul_tdiv_cancel_left _ (by decide)]
    omega
  have hm : Int.tmod a 64 = if 0 ≤ a then a % 64 else -((-a) % 64) := by
    by_cases h0 : 0 ≤ a
    · rw [if_pos h0, Int.tmod_eq_emod_of_nonneg h0]
    · rw [if_neg h0]
      have : a = -(-a) := by omega
      rw [this, Int.neg_tmod, Int.tmod_eq_emod_of_nonneg (by omega)]
      congr 2
      omega
  unfold serifref21_Down.f
  by_cases h0 : 0 ≤ a
  · rw [if_pos h0] at hm
    rw [hm, if_neg (by omega), IntWalk.wrap64_in (a - a % 64) (by omega), hd (a % 64) ⟨by omega, by omega, a / 64, by omega⟩, IntWalk.wrap64_in _ (by omega)]
  · rw [if_neg h0] at hm
    by_cases h1 : Int.tmod a 64 < 0
    · rw [if_pos h1, hm, IntWalk.wrap64_in (-(-a % 64) + 64) (by omega), IntWalk.wrap64_in (a - (-(-a % 64) + 64)) (by omega), hd (-(-a % 64) + 64) ⟨by omega, by omega, a / 64, by omega⟩, IntWalk.wrap64_in _ (by omega)]
    · rw [if_neg h1, hm, IntWalk.wrap64_in (a - -(-a % 64)) (by omega), hd (-(-a % 64)) ⟨by omega, by omega, a / 64, by omega⟩, IntWalk.wrap64_in _ (by omega)]
theorem copy_run {xs : List (List S70)} (hx : ∀ c ∈ xs, c.length < 4000000000000) (hl : xs.length < 4000000000000) :
    ∀ (m i : Nat) (out : List (List S70)), xs.length - i = m → i ≤ xs.length → out = xs.take i → ∃ k, serifref06_Copy.l0 k out xs xs.length i = some xs := by
  intro m
  induction m with
  | zero =>
    intro i out hm hi ho
    refine ⟨1, ?_⟩
    simp only [serifref06_Copy.l0]
    rw [if_neg (by omega), ho, List.take_of_length_le (by omega)]
  | succ m ih =>
    intro i out hm hi ho
    have hlt : i < xs.length := by omega
    have hr : rd_L4 xs i = xs[i] := by
      unfold rd_L4
      rw [Int.toNat_natCast, List.getD_eq_getElem?_getD, List.getElem?_eq_getElem hlt]
      rfl
    obtain ⟨k, hk⟩ := ih (i + 1) (out ++ [xs[i]]) (by omega) (by omega) (by rw [ho, List.take_succ_eq_append_getElem hlt])
    refine ⟨k + 1, ?_⟩
    have hcl := hx _ (List.getElem_mem hlt)
    have hol : out.length = i := by rw [ho, List.length_take]; omega
    have hw : wrap64 ((i : Int) + 1) = ((i + 1 : Nat) : Int) := by rw [IntWalk.wrap64_in _ (by omega)]; omega
    simp only [serifref06_Copy.l0]
    rw [if_pos (by omega), if_pos (by omega), if_pos (by omega), Option.bind_some, hr, if_pos (by simp; omega), if_pos (by omega), List.nil_append, hw]
    exact hk
theorem copy_ok {xs : List (List S70)} (hx : ∀ c ∈ xs, c.length < 4000000000000) (hl : xs.length < 4000000000000) : ∃ k, serifref06_Copy.f k xs = some xs := copy_run hx hl xs.length 0 [] (by omega) (by omega) rfl
/-! ### the square -/
def sq : List S30 := [⟨0, 0⟩, ⟨63, 0⟩, ⟨63, 63⟩, ⟨0, 63⟩]
def sqE : List S137 := [⟨63, 0, 63, 63, 1⟩, ⟨0, 0, 0, 63, -1⟩]
theorem sq_check : raster_check.f 20 [sq] = some 0 := by decide +kernel
theorem sq_box : all30 [sq] none = some ⟨0, 0, 63, 63⟩ := rfl
theorem sq_edges : edgesOf [sq] [] = sqE := by decide
theorem crs_perm {j : Int} {l m : List S137} (h : l.Perm m) : (crs j l).Perm (crs j m) := (h.filter _).map _
theorem sq_row {l : List S137} (hl : l.Perm sqE) {j : Int} {T : List (Int × Int × Int)} (h : RowS l j T) (h0 : 0 ≤ j) : (j < 63 → T = [(j, 0, 63)]) ∧ (63 ≤ j → T = []) := by
  obtain ⟨cr, hc, rfl⟩ := h
  have hp := hc.perm.trans (crs_perm hl)
  refine ⟨fun h1 => ?_, fun h1 => ?_⟩
  · have e1 : crs j sqE = [⟨63, 1⟩, ⟨0, -1⟩] := by
      unfold crs sqE
      have a1 : actF j ⟨63, 0, 63, 63, 1⟩ = true := by simp [actF]; omega
      have a2 : actF j ⟨0, 0, 0, 63, -1⟩ = true := by simp [actF]; omega
      rw [List.filter_cons, if_pos a1, List.filter_cons, if_pos a2]
      have f1 : firstF ⟨63, 0, 63, 63, 1⟩ j = 63 := firstF_up (by dsimp only; omega) (by dsimp only; omega) rfl
      have f2 : firstF ⟨0, 0, 0, 63, -1⟩ j = 0 := firstF_up (by dsimp only; omega) (by dsimp only; omega) rfl
      simp [f1, f2]
    rw [e1] at hp
    have hlen := hp.length_eq
    match cr, hlen, hp, hc.up with
    | [a, b], _, hp, hu =>
      have hab : a.f0 ≤ b.f0 := by simpa using hu
      have ha : a ∈ [(⟨63, 1⟩ : S144), ⟨0, -1⟩] := hp.mem_iff.1 (by simp)
      have hs := sumB_perm hp
      have hb : b ∈ [(⟨63, 1⟩ : S144), ⟨0, -1⟩] := hp.mem_iff.1 (by simp)
      have hx : (⟨0, -1⟩ : S144) ∈ [a, b] := hp.mem_iff.2 (by simp)
      have hy : (⟨63, 1⟩ : S144) ∈ [a, b] := hp.mem_iff.2 (by simp)
      simp only [List.mem_cons, List.mem_singleton, List.not_mem_nil, or_false] at ha hb hx hy
      rcases ha with rfl | rfl
      · rcases hb with rfl | rfl
        · rcases hx with h | h <;> cases h
        · exact absurd hab (by decide)
      · rcases hb with rfl | rfl
        · rfl
        · rcases hy with h | h <;> cases h
  · have e1 : crs j sqE = [] := by
      unfold crs sqE
      have a1 : ¬ actF j ⟨63, 0, 63, 63, 1⟩ = true := by simp [actF]; omega
      have a2 : ¬ actF j ⟨0, 0, 0, 63, -1⟩ = true := by simp [actF]; omega
      rw [List.filter_cons, if_neg a1, List.filter_cons, if_neg a2]
      rfl
    rw [e1] at hp
    rw [hp.eq_nil]
    rfl
theorem sq_span {j c : Int} (h0 : 0 ≤ j) (h1 : j < 63) (hc : 0 ≤ c ∧ c ≤ 4096) : addSpan 0 1 0 [c] (j, 0, 63) = [c + 63] := by
  have hj : j / 64 = 0 := by omega
  unfold addSpan
  dsimp only
  rw [hj]
  have e : ((0 - 0 : Int) * 1).toNat = 0 := rfl
  have e2 : ((63 : Int) - 64 * (0 / 64)).toNat = 62 + 1 := by decide
  rw [e, e2, addF, if_pos (by decide), addF_done (by decide)]
  have e3 : (([c] : List Int).getD (0 + ((0 : Int) / 64 - 0).toNat) 0 + (min 63 (64 * ((0 : Int) / 64) + 64) - max 0 (64 * ((0 : Int) / 64)))) = c + 63 := by
    show c + _ = c + 63
    rfl
  rw [e3, IntWalk.wrap64_in _ (by omega)]
  rfl
theorem sq_counts {l : List S137} (hl : l.Perm sqE) {j : Int} {S : List (Int × Int × Int)} (h : RowsS l 0 j S) : 0 ≤ j ∧ (j ≤ 64 → S.foldl (addSpan 0 1 0) [0] = [63 * (if j ≤ 63 then j else 63)]) := by
  induction h with
  | nil => exact ⟨Int.le_refl _, fun _ => by simp⟩
  | @row j S T h1 h2 ih =>
    refine ⟨by omega, fun h3 => ?_⟩
    have ih2 := ih.2 (by omega)
    rw [List.foldl_append, ih2]
    obtain ⟨a, b⟩ := sq_row hl h2 ih.1
    by_cases hj : j < 63
    · rw [a hj, if_pos (by omega), if_pos (by omega), List.foldl_cons, List.foldl_nil, sq_span ih.1 hj (by omega)]
      congr 1
      omega
    · rw [b (by omega), List.foldl_nil]
      congr 2
      split <;> split <;> omega
theorem sq_cov {cov : List Int} (h : Cov8 [sq] ⟨0, 0, 63, 63⟩ cov) : cov = [247] := by
  obtain ⟨l, S, n, hp, hu, hn, hS, rfl⟩ := h
  rw [sq_edges] at hp
  have hn1 : n = 1 := by
    have : (n : Int) = 1 := hn
    omega
  subst hn1
  have h2 := (sq_counts hp (j := 64) hS).2 (by decide)
  have h3 : S.foldl (addSpan (mX ⟨0, 0, 63, 63⟩) (mW ⟨0, 0, 63, 63⟩) (mY ⟨0, 0, 63, 63⟩)) (List.replicate 1 0) = [3969] := h2
  rw [h3]
  decide
/-! ### a flat hull -/
theorem flat_span {X Wd top j x : Int} {n : Nat} : addSpan X Wd top (List.replicate n 0) (j, x, x) = List.replicate n 0 := by
  have hk : ∀ (o k : Nat) (q : Int), x / 64 ≤ q → addF o X x x k q (List.replicate n 0) = List.replicate n 0 := by
    intro o k
    induction k with
    | zero => intro q _; rfl
    | succ k ih =>
      intro q hq
      unfold addF
      split
      · rename_i hlt
        have e1 : min x (64 * q + 64) - max x (64 * q) = 0 := by omega
        have e2 : (List.replicate n (0 : Int)).getD (o + (q - X).toNat) 0 = 0 := by
          rw [List.getD_eq_getElem?_getD, List.getElem?_replicate]
          split <;> rfl
        rw [e1, e2]
        have e3 : wrap64 (0 + 0) = 0 := IntWalk.wrap64_in _ (by decide)
        rw [e3, List.set_replicate_self]
        exact ih (q + 1) (by omega)
      · rfl
  exact hk _ _ _ (Int.le_refl _)
theorem flat_fold {X Wd top : Int} {n : Nat} : ∀ (S : List (Int × Int × Int)), (∀ s ∈ S, s.2.1 = s.2.2) → S.foldl (addSpan X Wd top) (List.replicate n 0) = List.replicate n 0
  | [], _ => rfl
  | s :: r, h => by
    obtain ⟨j, a, b⟩ := s
    have hab : a = b := h (j, a, b) (List.mem_cons_self ..)
    subst hab
    rw [List.foldl_cons, flat_span]
    exact flat_fold r (fun t ht => h t (List.mem_cons_of_mem _ ht))
theorem spansF_at {j x : Int} : ∀ (cr : List S144) (wd : Int), (∀ c ∈ cr, c.f0 = x) → wd + sumB cr = 0 → ∀ s ∈ spansF j wd cr, s.2.1 = s.2.2
  | [], _, _, _, s, hs => by cases hs
  | c :: r, wd, h, hz, s, hs => by
    unfold spansF at hs
    have hz2 : wd + c.f1 + sumB r = 0 := by
      have : sumB (c :: r) = c.f1 + sumB r := by unfold sumB; rw [List.map_cons, List.sum_cons]
      omega
    rcases List.mem_append.1 hs with h1 | h1
    · split at h1
      · cases h1
      · rename_i hne
        rw [List.mem_singleton.1 h1]
        cases r with
        | nil =>
          have : sumB [] = 0 := rfl
          omega
        | cons d r =>
          show c.f0 = d.f0
          rw [h c (List.mem_cons_self ..), h d (List.mem_cons_of_mem _ (List.mem_cons_self ..))]
    · exact spansF_at r (wd + c.f1) (fun d hd => h d (List.mem_cons_of_mem _ hd)) hz2 s h1
theorem rows_at {xs : List (List S30)} {l : List S137} {b : Bx} (hp : l.Perm (edgesOf xs [])) (hb : ∀ c ∈ xs, ∀ s ∈ c, InS b s.f0 s.f1) (hf : b.x0 = b.x1 ∨ b.y0 = b.y1) {j0 j : Int} {S : List (Int × Int × Int)} (h : RowsS l j0 j S) : ∀ s ∈ S, s.2.1 = s.2.2 := by
  have hok : ∀ e ∈ l, EOk b e := fun e he => edges_ok hb e (hp.mem_iff.1 he)
  induction h with
  | nil => simp
  | @row j S T h1 h2 ih =>
    intro s hs
    rcases List.mem_append.1 hs with h3 | h3
    · exact ih s h3
    · obtain ⟨cr, hc, rfl⟩ := h2
      rcases hf with hf | hf
      · exact spansF_at (x := b.x0) cr 0 (fun c hcm => by have := crs_in hok hc c hcm; omega) (by rw [hc.sum hp]; rfl) s h3
      · have hl : l = [] := by
          cases l with
          | nil => rfl
          | cons e r =>
            have := hok e (List.mem_cons_self ..)
            have ha := this.a
            have hb' := this.b
            have hu := this.up
            unfold InS at ha hb'
            omega
        subst hl
        have hn : cr = [] := hc.perm.eq_nil
        subst hn
        cases h3
theorem flat_cov {xs : List (List S30)} {b : Bx} {cov : List Int} (h : Cov8 xs b cov) (hb : all30 xs none = some b) (hf : b.x0 = b.x1 ∨ b.y0 = b.y1) : ∀ c ∈ cov, c = 0 := by
  obtain ⟨l, S, n, hp, hu, hn, hS, rfl⟩ := h
  rw [flat_fold S (rows_at hp (all30_holds xs none b hb).1 hf hS)]
  intro c hc
  rw [List.map_replicate] at hc
  rw [List.eq_of_mem_replicate hc]
  decide
/-! ### the hull -/
def p70 (c : List S70) : List S30 := c.map fun s => ⟨s.f0, s.f1⟩
theorem row70_is (c : List S70) (o : Option Bx) : row70 c o = row30 (p70 c) o := by
  unfold row70 row30 p70
  rw [List.foldl_map]
theorem all70_is : ∀ (xs : List (List S70)) (o : Option Bx), all70 xs o = all30 (xs.map p70) o
  | [], _ => rfl
  | c :: r, o => by
    show all70 r (row70 c o) = all30 (r.map p70) (row30 (p70 c) o)
    rw [all70_is r, row70_is]
theorem all70_holds {xs : List (List S70)} {B : Bx} (h : all70 xs none = some B) : ∀ c ∈ xs, ∀ s ∈ c, InS B s.f0 s.f1 := by
  rw [all70_is] at h
  intro c hc s hs
  exact (all30_holds _ none B h).1 (p70 c) (List.mem_map.2 ⟨c, hc, rfl⟩) ⟨s.f0, s.f1⟩ (List.mem_map.2 ⟨s, hs, rfl⟩)
theorem all70_in {xs : List (List S70)} {L B : Bx} (h : all70 xs none = some B) (hs : ∀ c ∈ xs, ∀ s ∈ c, InS L s.f0 s.f1) : L.x0 ≤ B.x0 ∧ L.y0 ≤ B.y0 ∧ B.x1 ≤ L.x1 ∧ B.y1 ≤ L.y1 := by
  rw [all70_is] at h
  refine all30_in (xs.map p70) none (fun c hc s hs' => ?_) (by simp) B h
  obtain ⟨d, hd, rfl⟩ := List.mem_map.1 hc
  obtain ⟨t, ht, rfl⟩ := List.mem_map.1 hs'
  exact hs d hd t ht
theorem row30_some : ∀ (c : List S30) (o : Option Bx), row30 c o = none → c = [] ∧ o = none
  | [], o, h => ⟨rfl, h⟩
  | s :: r, o, h => by
    have := (row30_some r (addB o s.f0 s.f1) h).2
    cases o <;> cases this
theorem all30_none : ∀ (xs : List (List S30)) (o : Option Bx), all30 xs o = none → (∀ c ∈ xs, c = []) ∧ o = none
  | [], o, h => ⟨by simp, h⟩
  | c :: r, o, h => by
    obtain ⟨h1, h2⟩ := all30_none r (row30 c o) h
    obtain ⟨h3, h4⟩ := row30_some c o h2
    refine ⟨fun d hd => ?_, h4⟩
    rcases List.mem_cons.1 hd with rfl | hd
    · exact h3
    · exact h1 d hd
theorem none_all30 : ∀ (xs : List (List S30)), (∀ c ∈ xs, c = []) → all30 xs none = none
  | [], _ => rfl
  | c :: r, h => by
    have hc := h c (List.mem_cons_self ..)
    subst hc
    exact none_all30 r (fun d hd => h d (List.mem_cons_of_mem _ hd))
theorem all70_none {xs : List (List S70)} (h : all70 xs none = none) : ∀ c ∈ xs, c = [] := by
  rw [all70_is] at h
  intro c hc
  have := (all30_none _ none h).1 (p70 c) (List.mem_map.2 ⟨c, hc, rfl⟩)
  simpa [p70] using this
end Go.Proofs.Yteoonjnmghponaa.H
namespace Go.Proofs.Yteoonjnmghponaa.H
open Go.RowKit Go.Proofs.Yteoonjnmghponaa.F Go.Proofs.YteoonjnmghponaaW.PrintWords Go.Proofs.YteoonjnmghponaaW.PrintLast Go.Proofs.YteoonjnmghponaaW.PrintMore
set_option linter.unusedVariables false
set_option linter.unusedSimpArgs false
def sqW (w : World) : World := (w.alloc (.cells #[.int .i64 0, .int .i64 0, .int .i64 63, .int .i64 0, .int .i64 63, .int .i64 63, .int .i64 0, .int .i64 63] 30)).alloc (.cells #[.slice (some ⟨w.heap.size, 0, none⟩) 4 4] 31)
theorem sq_reads (w : World) : Kd.C (Kd.slice 30 k30) (sqW w) (some ⟨w.heap.size + 1, 0, none⟩) 1 [sq] := by
  have b0 : (sqW w).heap[w.heap.size]? = some (.cells #[.int .i64 0, .int .i64 0, .int .i64 63, .int .i64 0, .int .i64 63, .int .i64 63, .int .i64 0, .int .i64 63] 30 (0, 0)) := blk_alloc (blk_new w _) _
  have b1 : (sqW w).heap[w.heap.size + 1]? = some (.cells #[.slice (some ⟨w.heap.size, 0, none⟩) 4 4] 31 (0, 0)) := by
    have := blk_new (w.alloc (.cells #[.int .i64 0, .int .i64 0, .int .i64 63, .int .i64 0, .int .i64 63, .int .i64 63, .int .i64 0, .int .i64 63] 30)) (.cells #[.slice (some ⟨w.heap.size, 0, none⟩) 4 4] 31)
    rw [World.size_alloc] at this
    exact this
  generalize sqW w = W at *
  generalize w.heap.size = g at *
  have hC : Kd.C k30 W (some ⟨g, 0, none⟩) 4 sq := by
    refine ⟨rfl, by decide, fun _ => ⟨⟨g, 0, none⟩, rfl, fun j p hp => ?_⟩⟩
    obtain ⟨hj, hpe⟩ := List.getElem?_eq_some_iff.1 hp
    refine ⟨[.int .i64 p.f0, .int .i64 p.f1], rfl, k30_mk _ _, fun i u hu => ?_⟩
    rw [add0]
    show W.cell? ⟨g, j * 2 + i, none⟩ = _
    rw [blk_cell b0]
    have hj4 : j < 4 := hj
    have hi : i < 2 := (List.getElem?_eq_some_iff.1 hu).1
    subst hpe
    rw [← hu]
    rcases (show j = 0 ∨ j = 1 ∨ j = 2 ∨ j = 3 by omega) with rfl | rfl | rfl | rfl <;> rcases (show i = 0 ∨ i = 1 by omega) with rfl | rfl <;> rfl
  refine ⟨rfl, by decide, fun _ => ⟨⟨g + 1, 0, none⟩, rfl, fun j p hp => ?_⟩⟩
  obtain ⟨hj, hpe⟩ := List.getElem?_eq_some_iff.1 hp
  have hj0 : j = 0 := by
    have : j < 1 := hj
    omega
  subst hj0
  have hpq : sq = p := hpe
  subst hpq
  refine ⟨[.slice (some ⟨g, 0, none⟩) 4 4], rfl, ⟨_, 4, rfl, by decide, hC⟩, fun i u hu => ?_⟩
  have hi : i = 0 := by
    have := (List.getElem?_eq_some_iff.1 hu).1
    simp at this
    exact this
  subst hi
  have hu2 : Value.slice (some ⟨g, 0, none⟩) 4 4 = u := by simpa using hu
  rw [← hu2, add0]
  show W.cell? ⟨g + 1, 0, none⟩ = _
  rw [blk_cell b1]
  rfl
theorem square_any (w : World) : Calls Try.prog 5 #[.slice (some ⟨w.heap.size + 1, 0, none⟩) 1 1] (sqW w) fun e w' => ∃ A c, e = .returned (.tuple #[.agg #[.int .i64 0, .int .i64 0, .int .i64 1, .int .i64 1, .slice A 1 c], .int .i64 0]) ∧ Kd.R (Kd.int .u8) 5 w' w.heap.size (fun _ => True) (.slice A 1 c) [247] ∧ Below w.heap.size w w' := by
  have hbW : Below w.heap.size w (sqW w) := below_alloc (below_alloc (Below.refl _ _) _) _
  refine Calls.mono (fill_any (xs := [sq]) (c := 1) (k := 20) (sq_reads w) (Nat.le_refl _) (by decide) (by simp [sq]) sq_check (.inl rfl) (fun _ c hc s hs => ?_)) ?_
  · rw [List.mem_singleton.1 hc] at hs
    simp [sq] at hs
    rcases hs with rfl | rfl | rfl | rfl <;> rfl
  · rintro e w' ⟨hb, ⟨r, _, h1 | ⟨b, h1, h2⟩, _⟩ | ⟨_, h1, _⟩ | ⟨_, b, A, c, cov, h1, h2, h3, h4, h5, h6, rfl⟩⟩
    · exact absurd rfl h1
    · rw [sq_box] at h1
      injection h1 with h1
      subst h1
      exact absurd h2 (by decide)
    · rw [sq_box] at h1
      cases h1
    · rw [sq_box] at h1
      injection h1 with h1
      subst h1
      have := sq_cov h6
      subst this
      exact ⟨A, c, rfl, Kd.R_lower h5 hbW.size, below_then hbW hbW.size hb⟩
/-- The box of a hull: an empty one, where there is none. -/
def hullB (xs : List (List S70)) : Bx := (all70 xs none).getD ⟨1, 1, 0, 0⟩
theorem hullB_ok {xs : List (List S70)} (h : ∀ c ∈ xs, OkC c) : (hullB xs).Ok ∧ ∀ c ∈ xs, ∀ s ∈ c, InS (hullB xs) s.f0 s.f1 := by
  unfold hullB
  cases ha : all70 xs none with
  | none => exact ⟨⟨by decide, by decide, by decide, by decide⟩, fun c hc s hs => by rw [all70_none ha c hc] at hs; cases hs⟩
  | some b =>
    have := all70_in (L := ⟨-2147483647, -2147483647, 2147483647, 2147483647⟩) ha (fun c hc s hs => by have := (h c hc).num s hs; unfold InS; dsimp only; omega)
    exact ⟨⟨this.1, this.2.1, this.2.2.1, this.2.2.2⟩, all70_holds ha⟩
/-- Without a hull the polygons are empty; with one, they have a box, within it. -/
theorem hull_none {xs : List (List S70)} {ls : List (List S30)} (ha : all70 xs none = none) (hi : ∀ c ∈ ls, ∀ s ∈ c, InS (hullB xs) s.f0 s.f1) : all30 ls none = none := by
  refine none_all30 ls (fun c hc => ?_)
  cases c with
  | nil => rfl
  | cons s r =>
    have := hi _ hc s (List.mem_cons_self ..)
    unfold hullB at this
    rw [ha] at this
    unfold InS at this
    simp at this
    omega
theorem hull_some {xs : List (List S70)} {ls : List (List S30)} {B : Bx} (ha : all70 xs none = some B) (hi : ∀ c ∈ ls, ∀ s ∈ c, InS (hullB xs) s.f0 s.f1) (hl : ls.length = xs.length) (hn : ∀ j, j < xs.length → xs.getD j [] ≠ [] → ls.getD j [] ≠ []) : ∃ b, all30 ls none = some b ∧ B.x0 ≤ b.x0 ∧ B.y0 ≤ b.y0 ∧ b.x1 ≤ B.x1 ∧ b.y1 ≤ B.y1 ∧ b.x0 ≤ b.x1 ∧ b.y0 ≤ b.y1 := by
  have hB : hullB xs = B := by unfold hullB; rw [ha]; rfl
  rw [hB] at hi
  cases hb : all30 ls none with
  | none =>
    exfalso
    have h1 := (all30_none ls none hb).1
    have h2 : all70 xs none = none := by
      rw [all70_is]
      refine none_all30 _ (fun c hc => ?_)
      obtain ⟨d, hd, rfl⟩ := List.mem_map.1 hc
      obtain ⟨j, hj, rfl⟩ := List.getElem_of_mem hd
      have h3 : xs.getD j [] = xs[j] := by rw [List.getD_eq_getElem?_getD, List.getElem?_eq_getElem hj]; rfl
      by_cases he : xs[j] = []
      · rw [he]
        rfl
      · have h4 := hn j hj (by rw [h3]; exact he)
        have hj2 : j < ls.length := by omega
        have h5 : ls.getD j [] = ls[j] := by rw [List.getD_eq_getElem?_getD, List.getElem?_eq_getElem hj2]; rfl
        exact absurd (h1 _ (List.getElem_mem hj2)) (by rw [← h5]; exact h4)
    rw [ha] at h2
    cases h2
  | some b =>
    have h1 := all30_in (L := B) ls none hi (by simp) b hb
    have h2 := all30_up ls none (by simp) b hb
    unfold BxUp at h2
    exact ⟨b, rfl, h1.1, h1.2.1, h1.2.2.1, h1.2.2.2, h2.1, h2.2⟩
end Go.Proofs.Yteoonjnmghponaa.H
