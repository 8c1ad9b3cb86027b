/- Package raster: what rows holds in memory; its steps. Package raster: rows, walked over the counting closure. -/
import Derived.Test.YteoonjnmghponaaZHfa
import Derived.Test.YteoonjnmghponaaZHga
import Derived.Test.YteoonjnmghponaaZUb
namespace Go.Proofs.Yteoonjnmghponaa.H
open Go.RowKit Go.Proofs.Yteoonjnmghponaa.F Go.Proofs.YteoonjnmghponaaW.PrintWords Go.Proofs.YteoonjnmghponaaW.PrintLast Go.Proofs.YteoonjnmghponaaW.PrintMore
set_option linter.unusedVariables false
set_option linter.unusedSimpArgs false
/-- The rows in memory: the row's number, the active edges, the crossings, the counts. -/
structure Rw (w : World) (g gj : Nat) (j : Int) (va : Value) (al : List S137) (vc : Value) (cl : List S144) (ct : List Int) (W : World) : Prop where
  gr : w.grownBy W (some g)
  hg : g < w.heap.size
  hj : Ci gj j W
  hjb : w.heap.size ≤ gj
  a : k137.R 137 W w.heap.size (fun _ => True) va al
  c : k144.R 144 W w.heap.size (fun _ => True) vc cl
  ct : Ct g ct W
section
variable {w W W' : World} {g gj : Nat} {j : Int} {va vc : Value} {al : List S137} {cl : List S144} {ct : List Int}
theorem gb_own {v : Value} (h : w.grownBy W (some g)) (hv : ∀ k, v.ownBlock = some k → w.heap.size ≤ k) (hb : W.grownBy W' v.ownBlock) : w.grownBy W' (some g) :=
  ⟨hb.os.trans h.os, hb.tape.trans h.tape, hb.output.trans h.output, Nat.le_trans h.size hb.size, fun k hk hn => (hb.block k (Nat.lt_of_lt_of_le hk h.size) (fun e => by have := hv k e.symm; omega)).trans (h.block k hk hn)⟩
theorem Rw.below (h : Rw w g gj j va al vc cl ct W) (hb : Below W.heap.size W W') : Rw w g gj j va al vc cl ct W' :=
  ⟨gb_below h.gr hb, h.hg, blk_below h.hj hb, h.hjb, Kd.R_below h.a hb, Kd.R_below h.c hb, blk_below h.ct hb⟩
theorem ne137_144 : ∀ q, q ∈ 144 :: k144.E → q ≠ 137 := by decide
theorem ne144_137 : ∀ q, q ∈ 137 :: k137.E → q ≠ 144 := by decide
theorem ne137_3 : ∀ q, q ∈ 137 :: k137.E → q ≠ 3 := by decide
theorem ne144_3 : ∀ q, q ∈ 144 :: k144.E → q ≠ 3 := by decide
theorem Rw.putA {va' : Value} {al' : List S137} (h : Rw w g gj j va al vc cl ct W) (hb : W.grownBy W' va.ownBlock) (ha : k137.R 137 W' w.heap.size (fun _ => True) va' al') : Rw w g gj j va' al' vc cl ct W' :=
  ⟨gb_own h.gr (Kd.R_base h.a) hb, h.hg, (hb.block gj (blk_lt h.hj) (Kd.R_ne h.a h.hj (by decide))).trans h.hj, h.hjb, ha, Kd.R_over' h.c (Kd.R_typed h.a) ne137_144 hb, (hb.block g (blk_lt h.ct) (Kd.R_ne h.a h.ct (by decide))).trans h.ct⟩
theorem Rw.putC {vc' : Value} {cl' : List S144} (h : Rw w g gj j va al vc cl ct W) (hb : W.grownBy W' vc.ownBlock) (hc : k144.R 144 W' w.heap.size (fun _ => True) vc' cl') : Rw w g gj j va al vc' cl' ct W' :=
  ⟨gb_own h.gr (Kd.R_base h.c) hb, h.hg, (hb.block gj (blk_lt h.hj) (Kd.R_ne h.c h.hj (by decide))).trans h.hj, h.hjb, Kd.R_over' h.a (Kd.R_typed h.c) ne144_137 hb, hc, (hb.block g (blk_lt h.ct) (Kd.R_ne h.c h.ct (by decide))).trans h.ct⟩
theorem Rw.span {ct' : List Int} (h : Rw w g gj j va al vc cl ct W) (hb : W.grownBy W' (some g)) (hc : Ct g ct' W') : Rw w g gj j va al vc cl ct' W' :=
  ⟨gb_trans h.gr hb, h.hg, (hb.block gj (blk_lt h.hj) (fun e => by injection e with e; have := h.hjb; have := h.hg; omega)).trans h.hj, h.hjb,
    Kd.R_over' (v := .slice (some ⟨g, 0, none⟩) 0 0) h.a (fun k hk => by injection hk with hk; subst hk; exact ⟨_, h.ct⟩) ne137_3 hb, Kd.R_over' (v := .slice (some ⟨g, 0, none⟩) 0 0) h.c (fun k hk => by injection hk with hk; subst hk; exact ⟨_, h.ct⟩) ne144_3 hb, hc⟩
/-- The next row's number lies in a cell of its own. -/
theorem Rw.next (h : Rw w g gj j va al vc cl ct W) (j' : Int) : Rw w g W.heap.size j' va al vc cl ct (W.alloc (.cells #[.int .i64 j'] 3)) := by
  have h1 := h.below (below_alloc (Below.refl W.heap.size W) (.cells #[.int .i64 j'] 3))
  exact ⟨h1.gr, h.hg, blk_new W _, h.gr.size, h1.a, h1.c, h1.ct⟩
/-- The edges, that lie behind: read as they were. -/
theorem Rw.reads {lb c : Nat} {A : Option Addr} {l : List S137} (h : Rw w g gj j va al vc cl ct W) (hl : k137.R 137 w lb (fun k => k ≠ g) (.slice A l.length c) l) : Kd.C k137 W A l.length l := by
  have := Kd.R_step hl (fun k hk hlt => h.gr.block k hlt (fun e => hk (by injection e)))
  exact (Kd.R_reads' this).2.2
end
/-! ### rows, in plain Lean -/
theorem take_filter {j : Int} {l al : List S137} {nx : Nat} (hn : nx < l.length) (h : al.filter (kpE j) = (l.take nx).filter (kpE j)) : (al ++ [l[nx]]).filter (kpE j) = (l.take (nx + 1)).filter (kpE j) := by
  rw [List.filter_append, List.take_succ_eq_append_getElem hn, List.filter_append, h]
theorem kpE_next {j : Int} {l al : List S137} {nx : Nat} (h : al = (l.take nx).filter (kpE j)) : al.filter (kpE (j + 1)) = (l.take nx).filter (kpE (j + 1)) := by
  rw [h, List.filter_filter]
  refine List.filter_congr (fun x _ => ?_)
  unfold kpE
  by_cases h1 : j + 1 < x.f3
  · have : j < x.f3 := by omega
    simp [h1, this]
  · simp [h1]
/-- The active edges of row j. -/
theorem act_all {j : Int} {l : List S137} {nx : Nat} (hs : l.Pairwise (fun a b => a.f1 ≤ b.f1)) (h1 : ∀ e ∈ l.take nx, e.f1 ≤ j) (h2 : ∀ h : nx < l.length, j < (l[nx]'h).f1) : (l.take nx).filter (kpE j) = l.filter (actF j) := by
  conv => rhs; rw [← List.take_append_drop nx l]
  rw [List.filter_append]
  have e2 : (l.drop nx).filter (actF j) = [] := by
    rw [List.filter_eq_nil_iff]
    intro e he
    obtain ⟨i, hi, rfl⟩ := List.getElem_of_mem he
    rw [List.length_drop] at hi
    have hn : nx < l.length := by omega
    have h3 := h2 hn
    rw [List.getElem_drop]
    have h4 : l[nx].f1 ≤ (l[nx + i]'(by omega)).f1 := by
      rcases Nat.eq_zero_or_pos i with rfl | hp
      · exact Int.le_refl _
      · exact List.pairwise_iff_getElem.1 hs nx (nx + i) hn (by omega) (by omega)
    simp [actF]
    omega
  rw [e2, List.append_nil]
  refine List.filter_congr (fun x hx => ?_)
  have := h1 x hx
  simp [kpE, actF, this]
theorem take_next {j : Int} {l : List S137} {nx : Nat} (hn : nx < l.length) (h1 : ∀ e ∈ l.take nx, e.f1 ≤ j) (h2 : l[nx].f1 ≤ j) : ∀ e ∈ l.take (nx + 1), e.f1 ≤ j := by
  intro e he
  rw [List.take_succ_eq_append_getElem hn] at he
  rcases List.mem_append.1 he with h | h
  · exact h1 e h
  · rw [List.mem_singleton.1 h]
    exact h2
def crF (j : Int) (e : S137) : S144 := ⟨firstF e j, e.f4⟩
theorem cr_step {j : Int} {l : List S137} {i : Nat} (hi : i < l.length) : (l.take i).map (crF j) ++ [crF j l[i]] = (l.take (i + 1)).map (crF j) := by
  rw [List.take_succ_eq_append_getElem hi, List.map_append]
  rfl
/-- How far the spans of a row have come. -/
structure Sp (j : Int) (cr : List S144) (k : Nat) (wd : Int) (S T : List (Int × Int × Int)) : Prop where
  eq : S ++ spansF j 0 cr = T ++ spansF j wd (cr.drop k)
  sum : wd + sumB (cr.drop k) = 0
  le : -(k : Int) ≤ wd ∧ wd ≤ k
theorem Sp.start {j : Int} {cr : List S144} (h : sumB cr = 0) (S : List (Int × Int × Int)) : Sp j cr 0 0 S S := ⟨rfl, by simpa using h, by simp⟩
theorem sumB_drop {cr : List S144} {k : Nat} (hk : k < cr.length) : sumB (cr.drop k) = cr[k].f1 + sumB (cr.drop (k + 1)) := by
  rw [List.drop_eq_getElem_cons hk]
  unfold sumB
  rw [List.map_cons, List.sum_cons]
theorem Sp.more {j : Int} {cr : List S144} {k : Nat} {wd : Int} {S T : List (Int × Int × Int)} (h : Sp j cr k wd S T) (hk : k < cr.length) (hb : cr[k].f1 = 1 ∨ cr[k].f1 = -1) (hz : ¬ wd + cr[k].f1 = 0) :
    ∃ hk1 : k + 1 < cr.length, Sp j cr (k + 1) (wd + cr[k].f1) S (T ++ [(j, cr[k].f0, cr[k + 1].f0)]) := by
  have hs := h.sum
  rw [sumB_drop hk] at hs
  have hk1 : k + 1 < cr.length := by
    rcases Nat.lt_or_ge (k + 1) cr.length with h1 | h1
    · exact h1
    · rw [List.drop_eq_nil_of_le h1] at hs
      have : sumB [] = 0 := rfl
      omega
  refine ⟨hk1, ?_, by omega, by have := h.le; rcases hb with hb | hb <;> rw [hb] <;> omega⟩
  rw [h.eq, List.drop_eq_getElem_cons hk, spansF, if_neg hz, List.append_assoc]
  congr 2
  rw [List.drop_eq_getElem_cons hk1]
  rfl
theorem Sp.less {j : Int} {cr : List S144} {k : Nat} {wd : Int} {S T : List (Int × Int × Int)} (h : Sp j cr k wd S T) (hk : k < cr.length) (hb : cr[k].f1 = 1 ∨ cr[k].f1 = -1) (hz : wd + cr[k].f1 = 0) :
    Sp j cr (k + 1) (wd + cr[k].f1) S T := by
  have hs := h.sum
  rw [sumB_drop hk] at hs
  refine ⟨?_, by omega, by have := h.le; rcases hb with hb | hb <;> rw [hb] <;> omega⟩
  rw [h.eq, List.drop_eq_getElem_cons hk, spansF, if_pos hz, List.nil_append]
theorem Sp.done {j : Int} {cr : List S144} {wd : Int} {S T : List (Int × Int × Int)} (h : Sp j cr cr.length wd S T) : T = S ++ spansF j 0 cr := by
  have := h.eq
  rw [List.drop_length, spansF, List.append_nil] at this
  exact this.symm
end Go.Proofs.Yteoonjnmghponaa.H
namespace Go.Proofs.Yteoonjnmghponaa.H
open Go.RowKit Go.Proofs.Yteoonjnmghponaa.F Go.Proofs.YteoonjnmghponaaW.PrintWords Go.Proofs.YteoonjnmghponaaW.PrintLast Go.Proofs.YteoonjnmghponaaW.PrintMore
set_option linter.unusedVariables false
set_option linter.unusedSimpArgs false
def rows14T : Bool × List (List Nat × List Nat) := (true, [([], []), ([], []), ([], []), ([1, 2], [1, 2]), ([], []), ([4], [4]), ([3, 5], [3, 5]), ([6], [6]), ([0, 7, 3], [0, 7]), ([8, 8, 0, 1, 2, 3, 4, 5, 6, 7, 8], [0, 8])])
def rows14B : List Nat := [0, 0, 0, 6, 0, 16, 62, 126, 255, 511]
theorem rows14tab : rtab .any (opsOf Try.f45 14) = rows14T := by kernel_rfl
theorem rows14bits : waitsOk rows14T.2 rows14B = true := by kernel_rfl

/-- What is known of the edges, of the mask and of the rows that are gone through. -/
structure Rk (l : List S137) (B : Bx) (X Wd top j0 j1 : Int) (n : Nat) : Prop where
  up : l.Pairwise (fun a b => a.f1 ≤ b.f1)
  sum : ∀ j cr, RowC l j cr → sumB cr = 0
  ok : ∀ e ∈ l, EOk B e
  len : l.length ≤ 20000000
  bx : -16777216 ≤ B.x0 ∧ B.x1 ≤ 16777216
  by_ : -16777216 ≤ B.y0 ∧ B.y1 ≤ 16777216
  w0 : 1 ≤ Wd
  w1 : Wd ≤ 512
  xa : 64 * X ≤ B.x0
  xb : B.x1 ≤ 64 * (X + Wd)
  xx : -16777216 ≤ X ∧ X ≤ 16777216
  tt : -16777216 ≤ top
  rr : ∀ j, j0 ≤ j → j < j1 → top ≤ j / 64 ∧ (j / 64 - top + 1) * Wd ≤ n
  nn : n < 4000000000
  jj : -17000000 ≤ j0 ∧ j0 ≤ j1 ∧ j1 ≤ 17000000
theorem foldl_len (X Wd top : Int) : ∀ (S : List (Int × Int × Int)) (ct : List Int), (S.foldl (addSpan X Wd top) ct).length = ct.length
  | [], _ => rfl
  | s :: r, ct => (foldl_len X Wd top r _).trans (addF_len _ _ _)
set_option maxHeartbeats 16000000 in
set_option maxRecDepth 100000 in
theorem rows_any {w : World} {lb c gb gt gm g n : Nat} {A : Option Addr} {l : List S137} {B : Bx} {X Wd top j0 j1 : Int} {ct0 : List Int} (hk : Rk l B X Wd top j0 j1 n) (hl : k137.R 137 w lb (fun k => k ≠ g) (.slice A l.length c) l) (hE : En gb gt gm g n X Wd top w) (hct : Ct g ct0 w) (hn : ct0.length = n) :
    Calls Try.prog 45 #[.slice A l.length c, .int .i64 j0, .int .i64 j1, .func (.func 46) #[] #[.pointer (some ⟨gb, 0, none⟩), .pointer (some ⟨gt, 0, none⟩), .pointer (some ⟨gm, 0, none⟩)]] w fun e w' => e = .returned (.tuple #[]) ∧ ∃ S, RowsS l j0 j1 S ∧ Ct g (S.foldl (addSpan X Wd top) ct0) w' ∧ w.grownBy w' (some g) := by
  have HK := Aside0.mk hk
  have HL := Aside0.mk hl
  have HE := Aside0.mk hE
  have HN := Aside0.mk hn
  have hj0 := hk.jj
  have hlen := hk.len
  have HST : Aside0 (Rw w g w.heap.size j0 (.slice none 0 0) [] (.slice none 0 0) [] ct0 ((w.alloc (.cells #[.int .i64 j0] 3)))) := ⟨⟨gb_below ⟨rfl, rfl, rfl, Nat.le_refl _, fun _ _ _ => rfl⟩ (below_alloc (Below.refl _ _) _), blk_lt hct, blk_new w _, Nat.le_refl _, Kd.R_nil _ _ _ _ _, Kd.R_nil _ _ _ _ _, blk_below hct (below_alloc (Below.refl _ _) _)⟩⟩
  clear hk hl hE hct hn
  go_enter Try.func45, Try.ntmps45
  go_wp2
  go_loopg [8, 9, 10, 11] (j1 - j0).toNat (fun kx s8 s9 s10 s11 wr => ∃ (j : Int) (nx gj : Nat) (va vc : Value) (al : List S137) (cl : List S144) (S : List (Int × Int × Int)), va = s8 ∧ vc = s9 ∧ s10 = .int .i64 nx ∧ s11 = .pointer (some ⟨gj, 0, none⟩) ∧ j0 ≤ j ∧ j ≤ j1 ∧ (j1 - j).toNat ≤ kx ∧ nx ≤ l.length ∧ al.length ≤ nx ∧ Aside0 (al.filter (kpE j) = (l.take nx).filter (kpE j)) ∧ Aside0 (∀ e ∈ l.take nx, e.f1 ≤ j) ∧ Aside0 (RowsS l j0 j S) ∧ Aside0 (Rw w g gj j va al vc cl (S.foldl (addSpan X Wd top) ct0) wr))
  case atStart => exact ⟨j0, 0, w.heap.size, _, _, [], [], [], rfl, rfl, rfl, rfl, Int.le_refl _, by omega, Nat.le_refl _, Nat.zero_le _, Nat.le_refl _, ⟨rfl⟩, ⟨by simp⟩, ⟨.nil⟩, HST⟩
  case round =>
    clear HST
    obtain ⟨j, nx, gj, va, vc, al, cl, S, rfl, rfl, rfl, rfl, hja, hjb, hkx, hnx, hal, HF, HU, HS, HR⟩ := hrel
    have cj : wr.cell? ⟨gj, 0, none⟩ = some (.int .i64 j) := (blk_cell HR.out.hj 0).trans rfl
    by_cases hjj : j < j1
    · have hjd : decide (j < j1) = true := decide_eq_true hjj
      go_upto_block 2 with fail
      go_cut [8, 10] from 23 to 44 (fun s8 s10 wx => ∃ (nx : Nat) (va : Value) (al : List S137), va = s8 ∧ s10 = .int .i64 nx ∧ nx ≤ l.length ∧ al.length ≤ nx ∧ Aside0 (al.filter (kpE j) = l.filter (actF j)) ∧ Aside0 (l.filter (actF j) = (l.take nx).filter (kpE j)) ∧ Aside0 (∀ e ∈ l.take nx, e.f1 ≤ j) ∧ Aside0 (Rw w g gj j va al vc cl (S.foldl (addSpan X Wd top) ct0) wx))
      case first =>
        go_wp2_with fail
        go_loopg [8, 10] (l.length - nx) (fun ky s8 s10 wr => ∃ (nx : Nat) (va : Value) (al : List S137), va = s8 ∧ s10 = .int .i64 nx ∧ nx ≤ l.length ∧ l.length - nx ≤ ky ∧ al.length ≤ nx ∧ Aside0 (al.filter (kpE j) = (l.take nx).filter (kpE j)) ∧ Aside0 (∀ e ∈ l.take nx, e.f1 ≤ j) ∧ Aside0 (Rw w g gj j va al vc cl (S.foldl (addSpan X Wd top) ct0) wr))
        case atStart => exact ⟨nx, va, al, rfl, rfl, hnx, Nat.le_refl _, hal, HF, HU, HR⟩
        case round =>
          clear HF HU HR cj hnx hal
          obtain ⟨nx, va, al, rfl, rfl, hnx, hky, hal, HF, HU, HR⟩ := hrel
          have cj : wr.cell? ⟨gj, 0, none⟩ = some (.int .i64 j) := (blk_cell HR.out.hj 0).trans rfl
          by_cases hlt : nx < l.length
          · have hltz : (nx : Int) < (l.length : Int) := by omega
            have hd1 : decide ((nx : Int) < (l.length : Int)) = true := decide_eq_true hltz
            obtain ⟨ad, e, q0, q1, q2, q3, q4⟩ := at_T137 (HR.out.reads HL.out) nx (by omega) (by omega)
            subst e
            rw [Int.toNat_natCast] at q0 q1 q2 q3 q4
            have hg2 : l.getD nx z137 = l[nx] := by rw [List.getD_eq_getElem?_getD, List.getElem?_eq_getElem hlt]; rfl
            rw [hg2] at q0 q1 q2 q3 q4
            have HT1 := Aside0.mk (fun h => take_next (j := j) hlt HU.out h)
            have HT2 := Aside0.mk (take_filter (j := j) hlt HF.out)
            by_cases hle : l[nx].f1 ≤ j
            · have HU2 := Aside0.mk (HT1.out hle)
              clear HT1 hg2
              generalize l[nx] = x at *
              obtain ⟨x0, y0, x1, y1, by_⟩ := x
              dsimp only at q0 q1 q2 q3 q4 hle
              have hd2 : decide (y0 ≤ j) = true := decide_eq_true hle
              go_upto_region 6 with fail
              go_quiet (fail)
              have hb := pw_below_drewN (Below.refl wr.heap.size wr) nq
              have HR2 := Aside0.mk (HR.out.below hb)
              have p0 := pw_cell_below hb q0
              have p1 := pw_cell_below hb q1
              have p2 := pw_cell_below hb q2
              have p3 := pw_cell_below hb q3
              have p4 := pw_cell_below hb q4
              clear q0 q1 q2 q3 q4 HR hb cj
              generalize wr.drewN nq = wm at *
              obtain ⟨Aa, ca, hva⟩ := Kd.R_slice HR2.out.a
              subst hva
              go_wp2_with ((with_reducible refine gate_builtin (b := .append) (xs := #[.tmp 36, .tmp 41]) rfl ?_); at_builtin; refine Kd.R_append k137 (w0 := wm) w.heap.size rfl (.tmp 36) (.tmp 41) 59 137 (.agg #[(.int .i64 0), (.int .i64 0), (.int .i64 0), (.int .i64 0), (.int .i64 0)]) 40 rfl Try.underlying59 info137 rfl (by decide) (by omega) (.slice Aa al.length ca) al (⟨x0, y0, x1, y1, by_⟩ : S137) [.int .i64 x0, .int .i64 y0, .int .i64 x1, .int .i64 y1, .int .i64 by_] (fun _ => True) (fun _ => False) rfl rfl ?aP (fun _ hk => hk.elim) ?aF ?aO ?aB ?aS ?aL ?_; (case aP => exact k137_mkM _ _ _ (⟨x0, y0, x1, y1, by_⟩ : S137)); (case aB => exact Below.refl _ _); (case aF => exact (fun _ _ => trivial)); (case aO => exact HR2.out.a); (case aS => exact HR2.out.gr.size); (case aL => omega); intro v9 w9 ho hb hg hat; have HR3 := Aside0.mk (HR2.out.putA hg ho); clear ho hb hg hat)
              go_roundg (l.length - (nx + 1))
              case measure => omega
              case rel => exact ⟨nx + 1, _, _, rfl, by go_num, by omega, Nat.le_refl _, by simp; omega, HT2, HU2, HR3⟩
            · have HA := Aside0.mk (act_all HK.out.up HU.out (fun _ => by omega))
              clear HT1 HT2 hg2
              generalize l[nx] = x at *
              obtain ⟨x0, y0, x1, y1, by_⟩ := x
              dsimp only at q0 q1 q2 q3 q4 hle
              have hd2 : decide (y0 ≤ j) = false := decide_eq_false hle
              go_upto_region 6 with fail
              go_quiet (fail)
              have HR2 := Aside0.mk (HR.out.below (pw_below_drewN (Below.refl wr.heap.size wr) nq))
              go_wp2_with fail
              go_meet
              case rel => exact ⟨nx, _, al, rfl, rfl, hnx, hal, ⟨HF.out.trans HA.out⟩, ⟨HA.out.symm⟩, HU, HR2⟩
          · have HA := Aside0.mk (act_all HK.out.up HU.out (fun h => absurd h hlt))
            have hltz : ¬ (nx : Int) < (l.length : Int) := by omega
            have hd1 : decide ((nx : Int) < (l.length : Int)) = false := decide_eq_false hltz
            go_upto_region 6 with fail
            go_quiet (fail)
            have HR2 := Aside0.mk (HR.out.below (pw_below_drewN (Below.refl wr.heap.size wr) nq))
            go_wp2_with fail
            go_meet
            case rel => exact ⟨nx, _, al, rfl, rfl, hnx, hal, ⟨HF.out.trans HA.out⟩, ⟨HA.out.symm⟩, HU, HR2⟩
      case rest =>
        clear HF HU HR cj hnx hal
        obtain ⟨nx, va, al, rfl, rfl, hnx, hal, HF, HA, HU, HR⟩ := hcut
        obtain ⟨Aa, ca, hva⟩ := Kd.R_slice HR.out.a
        subst hva
        have hdel := delete_any HR.out.a (by omega) HR.out.hj
        rw [HF.out] at hdel
        have HDEL := Aside0.mk hdel
        clear hdel
        go_upto_region 10 with (go_at_call 92; ((with_reducible refine Calls.mono HDEL.out ?_); rintro e w2 ⟨va2, rfl, ho2, hg2, hown2⟩; have HR2 := Aside0.mk (HR.out.putA hg2 ho2); clear ho2 hg2 hown2))
        obtain ⟨ls, has⟩ : ∃ z, z = l.filter (actF j) := ⟨_, rfl⟩
        have HAS := Aside0.mk has
        rw [← has] at HR2
        have hasl : ls.length ≤ l.length := by rw [has]; exact List.length_filter_le _ _
        clear has HDEL HR HF hal
        go_cut [9] from 48 to 49 (fun s9 wx => ∃ vc : Value, vc = s9 ∧ Aside0 (Rw w g gj j va2 ls vc [] (S.foldl (addSpan X Wd top) ct0) wx))
        case first =>
          obtain ⟨Ac, cc, hvc⟩ := Kd.R_slice HR2.out.c
          subst hvc
          cases Ac with
          | none =>
            have hz : cl.length = 0 ∧ cc = 0 := by
              obtain ⟨_, inner, ho, _⟩ := HR2.out.c
              rcases ho.2 with ⟨hv, _⟩ | ⟨g', cap', cur, hv, _⟩
              · injection hv with _ h1 h2
                exact ⟨h1, h2⟩
              · cases hv
            obtain ⟨hz1, hz2⟩ := hz
            rw [hz1, hz2]
            have HR3 := Aside0.mk (HR2.out.putC (W' := w2) ⟨rfl, rfl, rfl, Nat.le_refl _, fun _ _ _ => rfl⟩ (Kd.R_nil k144 144 w2 w.heap.size (fun _ => True)))
            go_wp2_with fail
            go_meet
            case rel => exact ⟨_, rfl, HR3⟩
          | some ad =>
            obtain ⟨gc, hgc⟩ := Kd.R_head HR2.out.c
            subst hgc
            have HR3 := Aside0.mk (HR2.out.putC (W' := w2) ⟨rfl, rfl, rfl, Nat.le_refl _, fun _ _ _ => rfl⟩ (Kd.R_take (m := 0) HR2.out.c (Nat.zero_le _)))
            rw [List.take_zero] at HR3
            go_wp2_with fail
            go_meet
            case rel => exact ⟨_, rfl, HR3⟩
        case rest =>
          clear HR2
          obtain ⟨vc, rfl, HR⟩ := hcut
          obtain ⟨Aa, ca, hva⟩ := Kd.R_slice HR.out.a
          subst hva
          go_upto_block 4 with fail
          go_cut [9, 13, 52] from 53 to 65 (fun s9 s13 s52 wx => ∃ vc : Value, vc = s9 ∧ Aside0 (Rw w g gj j (.slice Aa ls.length ca) ls vc (ls.map (crF j)) (S.foldl (addSpan X Wd top) ct0) wx))
          case first =>
            go_wp2_with fail
            go_loopg [9, 13, 52] ls.length (fun ky s9 s13 s52 wr => ∃ (i : Nat) (vc : Value) (cl : List S144), vc = s9 ∧ s52 = .int .i64 i ∧ i ≤ ls.length ∧ ls.length - i ≤ ky ∧ Aside0 (cl = (ls.take i).map (crF j)) ∧ Aside0 (Rw w g gj j (.slice Aa ls.length ca) ls vc cl (S.foldl (addSpan X Wd top) ct0) wr))
            case atStart => exact ⟨0, _, [], rfl, rfl, Nat.zero_le _, Nat.le_refl _, ⟨rfl⟩, HR⟩
            case round =>
              clear HR
              obtain ⟨i, vc, cl, rfl, rfl, hin, hky, HCL, HR⟩ := hrel
              by_cases hlt : i < ls.length
              · have hltz : (i : Int) < (ls.length : Int) := by omega
                obtain ⟨ad, e, q0, q1, q2, q3, q4⟩ := at_T137 (Kd.R_reads' HR.out.a).2.2 i (by omega) (by omega)
                subst e
                rw [Int.toNat_natCast] at q0 q1 q2 q3 q4
                have hg2 : ls.getD i z137 = ls[i] := by rw [List.getD_eq_getElem?_getD, List.getElem?_eq_getElem hlt]; rfl
                rw [hg2] at q0 q1 q2 q3 q4
                have hmem : ls[i] ∈ l.filter (actF j) := by rw [← HAS.out]; exact List.getElem_mem hlt
                obtain ⟨hm1, hm2⟩ := List.mem_filter.1 hmem
                have hfst : ∀ W, Calls Try.prog 94 #[.agg (e137 ls[i]).toArray, .int .i64 j] W fun x w' => x = .returned (.int .i64 (firstF ls[i] j)) ∧ Below W.heap.size W w' := by
                  have hk := HK.out.ok _ hm1
                  have h1 := hk.a
                  have h2 := hk.b
                  have h3 := HK.out.bx
                  have h4 := HK.out.by_
                  unfold InS at h1 h2
                  simp [actF] at hm2
                  exact first_any hm2.1 hm2.2 (by omega) (by omega) (by omega) (by omega)
                have HST2 := Aside0.mk (cr_step (j := j) hlt)
                clear hmem hm1 hm2 hg2
                obtain ⟨x, hx⟩ : ∃ z, z = ls[i] := ⟨_, rfl⟩
                rw [← hx] at q0 q1 q2 q3 q4 hfst HST2
                clear hx
                obtain ⟨fx, hfx⟩ : ∃ z, z = firstF x j := ⟨_, rfl⟩
                have hcf : crF j x = ⟨fx, x.f4⟩ := by rw [hfx]; rfl
                rw [hcf, ← HCL.out] at HST2
                rw [← hfx] at hfst
                clear hcf hfx
                obtain ⟨x0, y0, x1, y1, by_⟩ := x
                dsimp only at q0 q1 q2 q3 q4 HST2
                change ∀ W, Calls Try.prog _ #[.agg #[.int .i64 x0, .int .i64 y0, .int .i64 x1, .int .i64 y1, .int .i64 by_], .int .i64 j] W _ at hfst
                have HFST := Aside0.mk hfst
                clear hfst
                go_upto_region 14 with fail
                have hb7 := below_alloc (Below.refl wr.heap.size wr) (.cells #[.int .i64 x0, .int .i64 y0, .int .i64 x1, .int .i64 y1, .int .i64 by_] 137)
                have B7 := Aside0.mk (blk_new wr (.cells #[.int .i64 x0, .int .i64 y0, .int .i64 x1, .int .i64 y1, .int .i64 by_] 137))
                have HR1 := Aside0.mk (HR.out.below hb7)
                clear q0 q1 q2 q3 q4 HR hb7
                generalize wr.alloc (.cells #[.int .i64 x0, .int .i64 y0, .int .i64 x1, .int .i64 y1, .int .i64 by_] 137) = wk at *
                generalize wr.heap.size = gk at *
                have B7d : Aside0 (wk.drew.heap[gk]? = some (.cells #[.int .i64 x0, .int .i64 y0, .int .i64 x1, .int .i64 y1, .int .i64 by_] 137 (0, 0))) := ⟨B7.out⟩
                have HR1d := Aside0.mk (HR1.out.below (below_drew1 (Below.refl _ _)))
                clear B7 HR1
                obtain ⟨Ac, cc, hvc⟩ := Kd.R_slice HR1d.out.c
                subst hvc
                have hcll : cl.length ≤ 20000000 := by have := HCL.out; rw [this, List.length_map, List.length_take]; omega
                refine start_ (n := 10) (S := fun w' => w'.cell? ⟨gk, 0, none⟩ = some (.int .i64 x0) ∧ w'.cell? ⟨gk, 1, none⟩ = some (.int .i64 y0) ∧ w'.cell? ⟨gk, 2, none⟩ = some (.int .i64 x1) ∧ w'.cell? ⟨gk, 3, none⟩ = some (.int .i64 y1) ∧ w'.cell? ⟨gk, 4, none⟩ = some (.int .i64 by_) ∧ w'.cell? ⟨gj, 0, none⟩ = some (.int .i64 j)) (ds := []) #[false, false, false, false, false, false, false, false, false, false] (by kernel_rfl) rfl rfl ⟨(blk_cell B7d.out 0).trans rfl, (blk_cell B7d.out 1).trans rfl, (blk_cell B7d.out 2).trans rfl, (blk_cell B7d.out 3).trans rfl, (blk_cell B7d.out 4).trans rfl, (blk_cell HR1d.out.hj 0).trans rfl⟩ (fun hHeld => ?_); refine with_tabW rows14tab rows14bits (fun HT_ HW_ => ?_)
                generalize wk.drew = w3 at B7d HR1d hHeld ⊢
                refine pure_ (i := 0) (N := (some 56)) (v := ?_) (a' := ?_) #[true, false, false, false, false, false, false, false, false, false] rfl rfl (any_of HT_.out (by kernel_rfl)) (fun _ _ _ h => h) (Or.inl ⟨by rfl, ?_⟩) ?_ ?_
                rotate_left
                · intro w'
                  go_simp
                  with_reducible rfl
                rotate_left
                · simp only [Act.put, List.setIfInBounds_toArray, List.set_cons_zero, List.set_cons_succ, i64_w, i32_w]
                  rfl
                refine take_ (i := 1) (N := (some 57)) (v := ?_) (a' := ?_) #[true, true, false, false, false, false, false, false, false, false] rfl rfl (take_ofW HT_.out HW_.out (by kernel_rfl)) (fun _ _ _ h => h) (Or.inl ⟨by rfl, ?_⟩) hHeld ?_ ?_
                rotate_left
                · rintro w' ⟨s0, s1, s2, s3, s4, s5⟩
                  go_simp
                  with_reducible rfl
                rotate_left
                · simp only [Act.put, List.setIfInBounds_toArray, List.set_cons_zero, List.set_cons_succ, i64_w, i32_w]
                  rfl
                refine take_ (i := 2) (N := (some 58)) (v := ?_) (a' := ?_) #[true, true, true, false, false, false, false, false, false, false] rfl rfl (take_ofW HT_.out HW_.out (by kernel_rfl)) (fun _ _ _ h => h) (Or.inl ⟨by rfl, ?_⟩) hHeld ?_ ?_
                rotate_left
                · rintro w' ⟨s0, s1, s2, s3, s4, s5⟩
                  go_simp
                  with_reducible rfl
                rotate_left
                · simp only [Act.put, List.setIfInBounds_toArray, List.set_cons_zero, List.set_cons_succ, i64_w, i32_w]
                  rfl
                refine pure_ (i := 4) (N := (some 60)) (v := ?_) (a' := ?_) #[true, true, true, false, true, false, false, false, false, false] rfl rfl (any_of HT_.out (by kernel_rfl)) (fun _ _ _ h => h) (Or.inl ⟨by rfl, ?_⟩) ?_ ?_
                rotate_left
                · intro w'
                  go_simp
                  with_reducible rfl
                rotate_left
                · simp only [Act.put, List.setIfInBounds_toArray, List.set_cons_zero, List.set_cons_succ, i64_w, i32_w]
                  rfl
                refine take_ (i := 5) (N := (some 61)) (v := ?_) (a' := ?_) #[true, true, true, false, true, true, false, false, false, false] rfl rfl (take_ofW HT_.out HW_.out (by kernel_rfl)) (fun _ _ _ h => h) (Or.inl ⟨by rfl, ?_⟩) hHeld ?_ ?_
                rotate_left
                · rintro w' ⟨s0, s1, s2, s3, s4, s5⟩
                  go_simp
                  with_reducible rfl
                rotate_left
                · simp only [Act.put, List.setIfInBounds_toArray, List.set_cons_zero, List.set_cons_succ, i64_w, i32_w]
                  rfl
                refine one_ (i := 3) (N := (some 59)) #[true, true, true, true, true, true, false, false, false, false] rfl rfl (one_of HT_.out (by kernel_rfl)) (by decide) (fun K hK => ?_)
                refine goes_ Try.func94 (by kernel_rfl) rfl #[.agg #[.int .i64 x0, .int .i64 y0, .int .i64 x1, .int .i64 y1, .int .i64 by_], .int .i64 j] (by rfl) rfl rfl (by (try simp only [List.map_toArray, List.map_cons, List.map_nil]); first | done | rfl) ?_
                with_reducible refine Calls.mono (HFST.out _) ?_
                rintro e wb ⟨rfl, hb⟩
                refine ⟨_, rfl, ?_⟩
                have HR2 := Aside0.mk (HR1d.out.below hb)
                have B72 := Aside0.mk (blk_below B7d.out hb)
                clear hb HR1d B7d
                refine hK.out _ _ ⟨(blk_cell B72.out 0).trans rfl, (blk_cell B72.out 1).trans rfl, (blk_cell B72.out 2).trans rfl, (blk_cell B72.out 3).trans rfl, (blk_cell B72.out 4).trans rfl, (blk_cell HR2.out.hj 0).trans rfl⟩ (fun hHeld => ?_)
                clear hK K
                refine norm_ (a' := ?_) ?_ ?_
                rotate_left
                · show Act.put _ (some 59) _ = _
                  simp only [Act.put, List.setIfInBounds_toArray, List.set_cons_zero, List.set_cons_succ, i64_w, i32_w]
                  rfl
                refine pure_ (i := 6) (N := (some 62)) (v := ?_) (a' := ?_) #[true, true, true, true, true, true, true, false, false, false] rfl rfl (any_of HT_.out (by kernel_rfl)) (fun _ _ _ h => h) (Or.inl ⟨by rfl, ?_⟩) ?_ ?_
                rotate_left
                · intro w'
                  go_simp
                  with_reducible rfl
                rotate_left
                · simp only [Act.put, List.setIfInBounds_toArray, List.set_cons_zero, List.set_cons_succ, i64_w, i32_w]
                  rfl
                refine one_ (i := 7) (N := (some 63)) #[true, true, true, true, true, true, true, true, false, false] rfl rfl (one_of HT_.out (by kernel_rfl)) (by decide) (fun K hK => ?_)
                refine value_ (w1 := ?_) (v := ?_) (by rfl) rfl ?_ ?_
                rotate_left 2
                · go_simp
                  constructor
                  · rfl
                  · rfl
                refine hK.out _ _ ⟨(blk_cell (blk_alloc B72.out _) 0).trans rfl, (blk_cell (blk_alloc B72.out _) 1).trans rfl, (blk_cell (blk_alloc B72.out _) 2).trans rfl, (blk_cell (blk_alloc B72.out _) 3).trans rfl, (blk_cell (blk_alloc B72.out _) 4).trans rfl, (blk_cell (blk_alloc HR2.out.hj _) 0).trans rfl⟩ (fun hHeld => ?_)
                clear hK K
                refine norm_ (a' := ?_) ?_ ?_
                rotate_left
                · show Act.put _ (some 63) _ = _
                  simp only [Act.put, List.setIfInBounds_toArray, List.set_cons_zero, List.set_cons_succ, i64_w, i32_w]
                  rfl
                refine one_ (i := 8) (N := (some 64)) #[true, true, true, true, true, true, true, true, true, false] rfl rfl (one_of HT_.out (by kernel_rfl)) (by decide) (fun K hK => ?_)
                refine Kd.R_append_step k144 (w0 := wb) w.heap.size (by rfl) (.tmp 56) (.tmp 63) 140 144 (.agg #[(.int .i64 0), (.int .i64 0)]) 16 rfl Try.underlying140 info144 rfl (by decide) (by omega) _ cl (⟨fx, by_⟩ : S144) [.int .i64 fx, .int .i64 by_] (fun _ => True) (fun _ => False) rfl rfl ?aP (fun _ hk => hk.elim) (fun _ _ => trivial) ?aO ?aB ?aS ?aL ?_
                (case aP => exact k144_mkM _ _ _ (⟨fx, by_⟩ : S144))
                (case aO => exact HR2.out.c)
                (case aB => exact Below.refl _ _)
                (case aS => exact HR2.out.gr.size)
                (case aL => omega)
                intro v9 w9 ho hb hg hat
                have HR3 := Aside0.mk (HR2.out.putC hg ho)
                have B73 := Aside0.mk ((hg.block gk (blk_lt B72.out) (Kd.R_ne HR2.out.c B72.out (by decide))).trans B72.out)
                clear ho hb hg hat
                refine hK.out _ _ ⟨(blk_cell B73.out 0).trans rfl, (blk_cell B73.out 1).trans rfl, (blk_cell B73.out 2).trans rfl, (blk_cell B73.out 3).trans rfl, (blk_cell B73.out 4).trans rfl, (blk_cell HR3.out.hj 0).trans rfl⟩ (fun hHeld => ?_)
                clear hK K
                refine norm_ (a' := ?_) ?_ ?_
                rotate_left
                · show Act.put _ (some 64) _ = _
                  simp only [Act.put, List.setIfInBounds_toArray, List.set_cons_zero, List.set_cons_succ, i64_w, i32_w]
                  rfl
                refine pure_ (i := 9) (N := (some 9)) (v := ?_) (a' := ?_) #[true, true, true, true, true, true, true, true, true, true] rfl rfl (any_of HT_.out (by kernel_rfl)) (fun _ _ _ h => h) (Or.inl ⟨by rfl, ?_⟩) ?_ ?_
                rotate_left
                · intro w'
                  go_simp
                  with_reducible rfl
                rotate_left
                · simp only [Act.put, List.setIfInBounds_toArray, List.set_cons_zero, List.set_cons_succ, i64_w, i32_w]
                  rfl
                refine done_ (done_of HT_.out (by kernel_rfl)) ?_
                go_wp2_with fail
                go_roundg (ls.length - (i + 1))
                case measure => omega
                case rel => exact ⟨i + 1, _, _, rfl, by go_num, by omega, Nat.le_refl _, HST2, HR3⟩
              · have hltz : ¬ (i : Int) < (ls.length : Int) := by omega
                have hcl := HCL.out
                rw [List.take_of_length_le (by omega)] at hcl
                subst hcl
                go_wp2_with fail
                go_meet
                case rel => exact ⟨_, rfl, HR⟩
          case rest =>
            clear HR
            obtain ⟨vc, rfl, HR⟩ := hcut
            have hcb : ∀ p ∈ ls.map (crF j), -2147483648 ≤ p.f0 ∧ p.f0 ≤ 2147483648 := by
              intro p hp
              obtain ⟨e, he, rfl⟩ := List.mem_map.1 hp
              rw [HAS.out] at he
              obtain ⟨hm1, hm2⟩ := List.mem_filter.1 he
              have hk := HK.out.ok _ hm1
              have h1 := hk.a
              have h2 := hk.b
              have h3 := HK.out.bx
              unfold InS at h1 h2
              simp [actF] at hm2
              have := firstF_in (e := e) (j := j) (L := B.x0) (H := B.x1) hm2.1 hm2.2 h1.1 h2.1 h1.2.1 h2.2.1
              show -2147483648 ≤ firstF e j ∧ firstF e j ≤ 2147483648
              omega
            have hsrt := sortC_any HR.out.c hcb (by rw [List.length_map]; omega)
            have HSRT := Aside0.mk hsrt
            clear hsrt hcb
            obtain ⟨Ac, cc, hvc⟩ := Kd.R_slice HR.out.c
            subst hvc
            obtain ⟨m, hm⟩ : ∃ m, m = (ls.map (crF j)).length := ⟨_, rfl⟩
            rw [← hm] at HSRT HR ⊢
            clear hm
            go_upto_region 17 with (go_at_call 95; ((with_reducible refine Calls.mono HSRT.out ?_); rintro e w3 ⟨rfl, hg3, cr, ho3, hp3, hs3⟩; have HR3 := Aside0.mk (HR.out.putC hg3 ho3); have HP3 := Aside0.mk hp3; have HS3 := Aside0.mk hs3; clear hg3 ho3 hp3 hs3))
            have hml := (Kd.R_reads' HR3.out.c).1
            subst hml
            have HRC : Aside0 (RowC l j cr) := ⟨⟨by have := HP3.out; rw [HAS.out] at this; exact this, HS3.out⟩⟩
            have hcrl : cr.length ≤ 20000000 := by have := HP3.out.length_eq; rw [List.length_map] at this; omega
            have HSP := Aside0.mk (Sp.start (j := j) (HK.out.sum j cr HRC.out) S)
            clear HSRT HR HP3 HS3
            go_upto_block 6 with fail
            go_wp2_with fail
            go_loopg [14, 15, 16, 70] cr.length (fun ky s14 s15 s16 s70 wr => ∃ (k : Nat) (wd : Int) (T : List (Int × Int × Int)), s14 = .int .i64 wd ∧ s70 = .int .i64 k ∧ k ≤ cr.length ∧ cr.length - k ≤ ky ∧ -(k : Int) ≤ wd ∧ wd ≤ k ∧ Aside0 (Sp j cr k wd S T) ∧ Aside0 (Rw w g gj j (.slice Aa ls.length ca) ls (.slice Ac cr.length cc) cr (T.foldl (addSpan X Wd top) ct0) wr))
            case atStart => exact ⟨0, 0, S, rfl, rfl, Nat.zero_le _, Nat.le_refl _, by omega, by omega, HSP, HR3⟩
            case round =>
              clear HR3 HSP
              obtain ⟨k, wd, T, rfl, rfl, hkn, hky, hw0, hw1, HSP, HR⟩ := hrel
              by_cases hlt : k < cr.length
              · have hltz : (k : Int) < (cr.length : Int) := by omega
                obtain ⟨ad, e, q0, q1⟩ := at_T144 (Kd.R_reads' HR.out.c).2.2 k (by omega) (by omega)
                subst e
                rw [Int.toNat_natCast] at q0 q1
                have hg2 : cr.getD k z144 = cr[k] := by rw [List.getD_eq_getElem?_getD, List.getElem?_eq_getElem hlt]; rfl
                rw [hg2] at q0 q1
                have hcin := crs_in HK.out.ok HRC.out _ (List.getElem_mem hlt)
                have HLE := Aside0.mk (fun h => HSP.out.less hlt hcin.2.2 h)
                have HMO := Aside0.mk (fun h => HSP.out.more hlt hcin.2.2 h)
                obtain ⟨c0, hc0⟩ : ∃ z, z = cr[k].f0 := ⟨_, rfl⟩
                obtain ⟨c1, hc1⟩ : ∃ z, z = cr[k].f1 := ⟨_, rfl⟩
                rw [← hc0] at q0 HMO hcin
                rw [← hc1] at q1 HLE HMO hcin
                have HC0 := Aside0.mk hc0
                have hc1b : -1 ≤ c1 ∧ c1 ≤ 1 := by omega
                clear hg2 hc0 hc1
                go_upto_region 21 with fail
                have hb7 := below_alloc (Below.refl wr.heap.size wr) (.cells #[.int .i64 c0, .int .i64 c1] 144)
                have B7 := Aside0.mk (blk_new wr (.cells #[.int .i64 c0, .int .i64 c1] 144))
                have HR1 := Aside0.mk (HR.out.below hb7)
                clear q0 q1 HR hb7
                generalize wr.alloc (.cells #[.int .i64 c0, .int .i64 c1] 144) = wk at *
                generalize wr.heap.size = gk at *
                have k0 : wk.cell? ⟨gk, 0, none⟩ = some (.int .i64 c0) := (blk_cell B7.out 0).trans rfl
                have k1 : wk.cell? ⟨gk, 1, none⟩ = some (.int .i64 c1) := (blk_cell B7.out 1).trans rfl
                by_cases hz : wd + c1 = 0
                · have hnz : (wd + c1 != 0) = false := by simp [hz]
                  have hl2 := HLE.out hz
                  rw [hz] at hl2
                  have HL2 := Aside0.mk hl2
                  clear hl2
                  clear HLE HMO
                  go_wp2_with fail
                  go_roundg (cr.length - (k + 1))
                  case measure => omega
                  case rel => exact ⟨k + 1, 0, T, rfl, by go_num, by omega, Nat.le_refl _, by omega, by omega, HL2, HR1⟩
                · have hnz : (wd + c1 != 0) = true := by simp [hz]
                  obtain ⟨hk1, hmo⟩ := HMO.out hz
                  have HM2 := Aside0.mk hmo
                  have hk1z : (k : Int) + 1 < (cr.length : Int) := by omega
                  obtain ⟨ad2, e, p0, p1⟩ := at_T144 (Kd.R_reads' HR1.out.c).2.2 ((k + 1 : Nat) : Int) (by omega) (by omega)
                  cases e
                  rw [Int.toNat_natCast] at p0 p1
                  have hg3 : cr.getD (k + 1) z144 = cr[k + 1] := by rw [List.getD_eq_getElem?_getD, List.getElem?_eq_getElem hk1]; rfl
                  rw [hg3] at p0 p1
                  have hcin2 := crs_in HK.out.ok HRC.out _ (List.getElem_mem hk1)
                  have hup : c0 ≤ cr[k + 1].f0 := by rw [HC0.out]; exact List.pairwise_iff_getElem.1 HRC.out.up k (k + 1) hlt hk1 (by omega)
                  obtain ⟨em, hem1, hem2, hem3, _⟩ := HRC.out.mem (List.getElem_mem hlt)
                  have hjy : -16777216 ≤ j ∧ j ≤ 16777216 := by
                    have hk := HK.out.ok _ hem1
                    have h1 := hk.a
                    have h2 := hk.b
                    have h3 := HK.out.by_
                    unfold InS at h1 h2
                    omega
                  have hrr := HK.out.rr j hja hjj
                  generalize cr[k + 1].f0 = c2 at *
                  have HR1d := Aside0.mk (HR1.out.below (below_drew1 (Below.refl _ _)))
                  have hspn := span_any (j := j) (a := c0) (b := c2) (HE.out.grown HR1d.out.gr) HR1d.out.ct ((foldl_len X Wd top T ct0).trans HN.out) HK.out.w0 HK.out.w1 hrr.1 hrr.2 (by have := HK.out.xa; omega) hup (by have := HK.out.xb; omega) HK.out.xx hjy HK.out.tt HK.out.nn
                  have HSPN := Aside0.mk hspn
                  have cj := (blk_cell HR1.out.hj 0).trans rfl
                  clear hg3 hcin2 hup hem1 hem2 hem3 hrr hspn
                  go_upto_region 23 with fail
                  refine wp_region_quiet_tail 10 (by kernel_rfl) (by kernel_rfl) ?_
                  simp only [List.take_succ_cons, List.take_zero, List.drop_succ_cons, List.drop_zero]
                  repeat (first | go_big_quiet_skip | (go_big_quiet_want; go_big_quiet_op; go_big_quiet_on))
                  refine wpQuiet_nil ?_
                  go_wp2_with (go_at_call 46; ((with_reducible refine Calls.mono HSPN.out ?_); rintro e w5 ⟨rfl, hc5, hg5⟩; have HR5 := Aside0.mk (HR1d.out.span hg5 hc5); clear hc5 hg5))
                  go_roundg (cr.length - (k + 1))
                  case measure => omega
                  case rel => exact ⟨k + 1, wd + c1, _, rfl, by go_num, by omega, Nat.le_refl _, by omega, by omega, HM2, ⟨by rw [List.foldl_append]; exact HR5.out⟩⟩
              · have hltz : ¬ (k : Int) < (cr.length : Int) := by omega
                have hke : k = cr.length := by omega
                subst hke
                have HT := Aside0.mk HSP.out.done
                have cj : wr.cell? ⟨gj, 0, none⟩ = some (.int .i64 j) := (blk_cell HR.out.hj 0).trans rfl
                have HNX := Aside0.mk (HR.out.next (j + 1))
                have HF1 : Aside0 (ls.filter (kpE (j + 1)) = (l.take nx).filter (kpE (j + 1))) := ⟨kpE_next (HAS.out.trans HA.out)⟩
                have hlsn : ls.length ≤ nx := by rw [HAS.out, HA.out]; exact Nat.le_trans (List.length_filter_le _ _) (by rw [List.length_take]; omega)
                have HU1 : Aside0 (∀ e ∈ l.take nx, e.f1 ≤ j + 1) := ⟨fun e he => by have := HU.out e he; omega⟩
                have HS1 : Aside0 (RowsS l j0 (j + 1) T) := ⟨by rw [HT.out]; exact .row HS.out ⟨cr, HRC.out, rfl⟩⟩
                go_wp2_with fail
                go_roundg (j1 - (j + 1)).toNat
                case measure => omega
                case rel => exact ⟨j + 1, nx, _, _, _, ls, cr, T, rfl, rfl, rfl, rfl, by omega, by omega, Nat.le_refl _, hnx, hlsn, HF1, HU1, HS1, HNX⟩
    · have hjd : decide (j < j1) = false := decide_eq_false hjj
      have hje : j = j1 := by omega
      subst hje
      go_wp2
      go_end0
      exact ⟨rfl, S, HS.out, HR.out.ct, HR.out.gr⟩
end Go.Proofs.Yteoonjnmghponaa.H
