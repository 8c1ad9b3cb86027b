/- Package bidi: a text laid in memory: three new rows, in whatever order. Package runs: a paragraph's runs, walked: they follow one another over the whole. The row that the law WholeText fills, while others are read: what stays, and how it grows. -/
import Derived.Test.YteoonjnmghponaaZBdb
import Derived.Test.YteoonjnmghponaaZBec
import Derived.Deep.RegionLaw
import Derived.Test.YteoonjnmghponaaZWa
import Derived.Test.YteoonjnmghponaaWRepsOne
namespace Go.Proofs.Yteoonjnmghponaa.F
open Go.RowKit Go.Proofs.YteoonjnmghponaaW.PrintWords Go.Proofs.YteoonjnmghponaaW.PrintLast Go.Proofs.YteoonjnmghponaaW.PrintMore
set_option linter.unusedVariables false
set_option linter.unusedSimpArgs false
/-- A row of n zeros made: its cells are one array, in whatever world. -/
theorem make_cells (n : Nat) (hn : n ≤ 16384) : ∃ mc : Array Value, (∀ W : World, (Instr.makeSlice 42 (.int .i64 (n : Int)) (.int .i64 (n : Int))).run Try.prog W = .ok (.slice (some ⟨W.heap.size, 0, none⟩) n n) (W.alloc (.cells mc 3))) ∧ ∀ (W : World) (base : Nat), base ≤ W.heap.size → Kd.R (Kd.int .i64) 3 (W.alloc (.cells mc 3)) base (fun _ => True) (.slice (some ⟨W.heap.size, 0, none⟩) n n) (List.replicate n 0) := by
  obtain ⟨i0, hi, hzz⟩ := Option.map_eq_some_iff.1 infoInt
  simp only [Prod.mk.injEq] at hzz
  obtain ⟨hz0, hz1, hz2⟩ := hzz
  refine ⟨madeCells (Value.int .i64 0).cells (n * i0.size), fun W => ?_, fun W base hb => ?_⟩
  · have hr := run_make (P := Try.prog) W 42 3 i0 (.int .i64 0) Try.underlying42 hi hz0 .i64 .i64 (n : Int) (n : Int) (by omega) (by omega) (by rw [hz2]; omega) (by omega)
    simpa only [Int.toNat_natCast] using hr
  · rw [hz1]
    refine ⟨fun _ _ => trivial, (madeCells (Value.int .i64 0).cells (n * 1)).toList, ?_, Kd.reps_made (size := 1) (by rfl) (by decide) (by rfl) n⟩
    have h2 := World.ownsRow_lit (base := base) (e := 3) (size := 1) W (madeCells (Value.int .i64 0).cells (n * 1)) n hb (by simp only [maxLen]; omega) (by simp [size_madeCells])
    show World.ownsRow _ base 3 1 _ _ _
    simpa using h2
/-- Rows made since w0, apart. -/
structure Rw (w0 W : World) (rs : List (Value × List Int)) : Prop where
  be : Below w0.heap.size w0 W
  row : ∀ r ∈ rs, Kd.R (Kd.int .i64) 3 W w0.heap.size (fun _ => True) r.1 r.2
  ap : rs.Pairwise fun p q => p.1.ownBlock = none ∨ p.1.ownBlock ≠ q.1.ownBlock
section
variable {w0 W W' : World} {rs : List (Value × List Int)}
theorem Rw.below (h : Rw w0 W rs) (hb : Below W.heap.size W W') : Rw w0 W' rs := ⟨below_step h.be hb, fun r hr => Kd.R_below (h.row r hr) hb, h.ap⟩
theorem Rw.drewN (h : Rw w0 W rs) (q : Nat) : Rw w0 (W.drewN q) rs := h.below (pw_below_drewN (Below.refl _ _) q)
theorem Rw.drew (h : Rw w0 W rs) : Rw w0 W.drew rs := h.below (below_drew (Below.refl _ _))
theorem Rw.add (h : Rw w0 W rs) {v : Value} {xs : List Int} (hr : Kd.R (Kd.int .i64) 3 W' W.heap.size (fun _ => True) v xs) (hb : Below W.heap.size W W') : Rw w0 W' ((v, xs) :: rs) := by
  refine ⟨below_step h.be hb, fun r hr' => ?_, List.pairwise_cons.mpr ⟨fun q hq => ?_, h.ap⟩⟩
  · rcases List.mem_cons.mp hr' with rfl | hr'
    · exact Kd.R_lower hr h.be.size
    · exact Kd.R_below (h.row r hr') hb
  · show v.ownBlock = none ∨ v.ownBlock ≠ q.1.ownBlock
    cases hv : v.ownBlock with
    | none => exact .inl rfl
    | some b =>
      right
      intro e
      have h1 := Kd.R_lt (h.row q hq) b e.symm
      have h2 := Kd.R_base hr b hv
      omega
theorem Rw.perm {rs' : List (Value × List Int)} (h : Rw w0 W rs) (hp : rs.Perm rs') : Rw w0 W rs' := by
  refine ⟨h.be, fun r hr => h.row r (hp.mem_iff.mpr hr), ?_⟩
  refine (hp.pairwise_iff (fun {x y} hxy => ?_)).mp h.ap
  rcases hxy with e | e
  · rw [e]
    cases hy : y.1.ownBlock with
    | none => exact .inl rfl
    | some b => exact .inr (by simp)
  · exact .inr (fun e' => e e'.symm)
end
theorem R_of1 {W : World} {N : Nat} {v : Value} {xs : List Int} (h : Kd.R (Kd.int .i64) 3 W N (fun _ => True) v xs) (hp : 0 < xs.length) : ∃ g c, v = .slice (some ⟨g, 0, none⟩) xs.length c ∧ N ≤ g ∧ g < W.heap.size ∧ xs.length ≤ c ∧ Kd.R (Kd.int .i64) 3 W N (· = g) v xs := by
  obtain ⟨g, c, hv, h1, h2, _⟩ := Kd.R_form h hp
  obtain ⟨A, c', hv', hc, _⟩ := Kd.R_reads h
  rw [hv] at hv'
  cases hv'
  exact ⟨g, _, hv, h1, h2, hc, Kd.R_mono (Kd.R_tight rfl h) (fun k hk => by rw [hv] at hk; simpa [Value.ownBlock] using hk)⟩
theorem C_low {W : World} {A : Option Addr} {l : List Int} (h : Kd.C (Kd.int .i64) W A l.length l) (hp : 0 < l.length) : ∀ ad, A = some ad → ad.block < W.heap.size := by
  intro ad e
  obtain ⟨ad', e', hc⟩ := Kd.at_int h 0 (by omega) (by omega)
  rw [e] at e'
  cases e'
  have := World.block_lt_of_cell? W _ hc
  rwa [add_block] at this
/-- The text told off. -/
theorem text_of {w0 w1 wx : World} {b c c1 : Nat} {A A1 : Option Addr} {l cs ms : List Int} {vn vl vm : Value} {at_ : Int} (hb : wx.heap[b]? = some (.cells #[.slice A l.length c, .slice A1 cs.length c1, vn, vl, vm, .int .i64 at_] 80 (0, 0))) (hrw : Rw w1 wx [(vn, cs), (vl, List.replicate l.length 0), (vm, ms)]) (h01 : w0.heap.size ≤ w1.heap.size) (hA : Kd.C (Kd.int .i64) w1 A l.length l) (hA1 : Kd.C (Kd.int .i64) w1 A1 cs.length cs) (hp : 0 < l.length) (hcl : cs.length = l.length) (hml : ms.length = cs.length) :
    ∃ (bN bL : Nat) (AM : Option Addr) (cM : Nat), vm = .slice AM ms.length cM ∧ ms.length ≤ cM ∧ bN < wx.heap.size ∧ bL < wx.heap.size ∧ w0.heap.size ≤ bL ∧ Tx w0.heap.size ⟨b, l.length, bN, bL, A, A1, AM, c, c1, cM, vn, vl, l, cs, ms, at_⟩ cs (List.replicate l.length 0) wx := by
  have r1 := hrw.row (vn, cs) (by simp)
  have r2 := hrw.row (vl, List.replicate l.length 0) (by simp)
  have r3 := hrw.row (vm, ms) (by simp)
  obtain ⟨gN, cN, hvN, n1, n2, _, hRN⟩ := R_of1 r1 (by show 0 < cs.length; omega)
  obtain ⟨gL, cL, hvL, l1, l2, _, hRL⟩ := R_of1 r2 (by show 0 < (List.replicate l.length (0 : Int)).length; simpa using hp)
  obtain ⟨gM, cM, hvM, m1, m2, hcM, hRM⟩ := R_of1 r3 (by show 0 < ms.length; omega)
  have hap := hrw.ap
  simp only [List.pairwise_cons, List.mem_cons, List.not_mem_nil, or_false, forall_eq_or_imp, forall_eq] at hap
  obtain ⟨⟨a1, a2⟩, a3, _⟩ := hap
  have hvN' : vn = _ := hvN
  have hvL' : vl = _ := hvL
  have hvM' : vm = _ := hvM
  have d1 : gN ≠ gL := by
    rintro rfl
    rw [hvN', hvL'] at a1
    simp [Value.ownBlock] at a1
  have d2 : gN ≠ gM := by
    rintro rfl
    rw [hvN', hvM'] at a2
    simp [Value.ownBlock] at a2
  have d3 : gL ≠ gM := by
    rintro rfl
    rw [hvL', hvM'] at a3
    simp [Value.ownBlock] at a3
  obtain ⟨_, _, hv3, _, hC3⟩ := Kd.R_reads r3
  rw [show (vm, ms).1 = vm from rfl, hvM'] at hv3
  injection hv3 with e1 e2 e3
  subst e1
  refine ⟨gN, gL, some ⟨gM, 0, none⟩, cM, hvM', hcM, n2, l2, Nat.le_trans h01 l1, ?_⟩
  rw [hvM'] at hb
  exact ⟨hb, Kd.C_below hA hrw.be, Kd.C_below hA1 hrw.be, hC3, ⟨rfl, hcl, hml.trans hcl, hcl, by simp⟩, Kd.R_lower hRN h01, Kd.R_lower hRL h01, d1, fun ad e => by
    rcases e with e | e | e
    · have h5 := C_low hA hp ad e; exact ⟨fun h => by have h' : ad.block = gN := h; omega, fun h => by have h' : ad.block = gL := h; omega⟩
    · have h5 := C_low hA1 (by omega) ad e; exact ⟨fun h => by have h' : ad.block = gN := h; omega, fun h => by have h' : ad.block = gL := h; omega⟩
    · cases e; exact ⟨fun e => d2 e.symm, fun e => d3 e.symm⟩⟩
theorem C_but {A : Option Addr} {n g : Nat} {l : List Int} {W W' : World} (h : Kd.C (Kd.int .i64) W A n l) (hk : ∀ k, k ≠ g → W'.heap[k]? = W.heap[k]?) (hA : ∀ ad, A = some ad → ad.block ≠ g) : Kd.C (Kd.int .i64) W' A n l := by
  refine ⟨h.1, h.2.1, fun hn => ?_⟩
  obtain ⟨ad, he, hc⟩ := h.2.2 hn
  refine ⟨ad, he, fun j p hj => ?_⟩
  obtain ⟨cs, e1, e2, e3⟩ := hc j p hj
  refine ⟨cs, e1, e2, fun i u hu => ?_⟩
  rw [← e3 i u hu]
  exact World.cell?_of_block (w := W) (hk _ (by rw [add_block]; exact hA ad he))
/-- The base level written. -/
theorem Tx.setB {B : Nat} {t : TP} {xs ys : List Int} {W : World} (h : Tx B t xs ys W) (hA : ∀ ad, (t.Ac = some ad ∨ t.Af = some ad ∨ t.Am = some ad) → ad.block ≠ t.tp) (r : Int) : Tx B { t with bs := r } xs ys (W.setCell ⟨t.tp, 5, none⟩ (.int .i64 r)) := by
  have hk : ∀ k, k ≠ t.tp → (W.setCell ⟨t.tp, 5, none⟩ (.int .i64 r)).heap[k]? = W.heap[k]? := fun k hk => Below.heap_setCell W ⟨t.tp, 5, none⟩ _ k hk
  have hty : ∀ q, q ∈ 3 :: (Kd.int .i64).E → q ≠ 80 := by decide
  exact ⟨blk_put h.blk 5 _ rfl, C_but h.rc hk (fun ad e => hA ad (.inl e)), C_but h.rf hk (fun ad e => hA ad (.inr (.inl e))), C_but h.rm hk (fun ad e => hA ad (.inr (.inr e))), h.lens, Kd.R_set h.now h.blk hty 5 _, Kd.R_set h.lev h.blk hty 5 _, h.ne, h.far⟩
/-- While the sequences are gone through. -/
structure Lv (B : Nat) (t : TP) (N : Nat) (vo : Value) (lo l : List Nat) (f : Nat → Value × List Int) (W : World) : Prop where
  tx : ∃ xs ys, Tx B t xs ys W
  lo' : B ≤ W.heap.size
  far : t.bN < N ∧ t.bL < N
  out : kPt.R 84 W N (fun _ => True) vo lo
  q : Qf t N 16384 W l f
  sub : ∀ p ∈ lo, p ∈ l
section
variable {B : Nat} {t : TP} {N : Nat} {vo : Value} {lo l : List Nat} {f : Nat → Value × List Int} {W W' : World}
theorem Lv.to (h : Lv B t N vo lo l f W) (hx : ∃ xs ys, Tx B t xs ys W') (hc : Ch B t W W') : Lv B t N vo lo l f W' := by
  have hfar := h.far
  have hR : ∀ {α : Type} {d : Kd α} {e : Nat} {v : Value} {xs : List α}, d.R e W N (fun _ => True) v xs → d.R e W' N (fun _ => True) v xs := fun hr => Kd.R_mono (Kd.R_step (Kd.R_bound hr) (fun k hk hlt => hc.keep k hlt (by have := hk.2.1; omega) (by have := hk.2.1; omega))) (fun _ _ => trivial)
  refine ⟨hx, Nat.le_trans h.lo' hc.size, h.far, hR h.out, ⟨fun p hp => ?_, fun p hp => hR (h.q.row p hp), h.q.inn, h.q.len, h.q.lo, h.q.apart⟩, h.sub⟩
  obtain ⟨lv, st, en, hk⟩ := h.q.blk p hp
  have := h.q.lo p hp
  exact ⟨lv, st, en, (hc.keep p (blk_lt hk) (by omega) (by omega)).trans hk⟩
theorem Lv.sx (h : Lv B t N vo lo l f W) {sp : Nat} (hs : sp ∈ l) : ∃ s : SP, s.sp = sp ∧ s.at_.length ≤ 16384 ∧ Sx B t s W := by
  obtain ⟨lv, st, en, hk⟩ := h.q.blk sp hs
  have hr := h.q.row sp hs
  obtain ⟨A, c, hv, _, hC⟩ := Kd.R_reads hr
  have hlo := h.q.lo sp hs
  have hfar := h.far
  refine ⟨⟨sp, A, c, (f sp).2, lv, st, en⟩, rfl, by have := h.q.len sp hs; show (f sp).2.length ≤ 16384; omega, h.tx, ⟨by rw [hv] at hk; exact hk, hC, h.q.inn sp hs, fun ad e => ?_⟩, ⟨by show sp ≠ _; omega, by show sp ≠ _; omega⟩, h.lo'⟩
  have e' : A = some ad := e
  have hb := Kd.R_base hr ad.block (by rw [hv, e']; rfl)
  omega
end
set_option maxRecDepth 100000 in
set_option maxHeartbeats 8000000 in
theorem levels_any {A : Option Addr} {c : Nat} {l : List Int} {w : World} (hr : Kd.C (Kd.int .i64) w A l.length l) (hc : l.length ≤ c) (h0 : 0 < l.length) (at_ : Int) :
    Calls Try.prog 14 #[.slice A l.length c, .int .i64 at_] w fun e w' => Below w.heap.size w w' ∧ (((at_ < -1 ∨ 1 < at_) ∧ e = .returned (.tuple #[.slice none 0 0, .int .i64 135])) ∨ ((-1 ≤ at_ ∧ at_ ≤ 1) ∧ 16384 < l.length ∧ e = .returned (.tuple #[.slice none 0 0, .int .i64 133])) ∨ ((-1 ≤ at_ ∧ at_ ≤ 1) ∧ l.length ≤ 16384 ∧ ∃ v ys, e = .returned (.tuple #[v, .int .i64 0]) ∧ Kd.R (Kd.int .i64) 3 w' w.heap.size (fun _ => True) v ys ∧ ys.length = l.length)) := by
  by_cases ha1 : at_ < -1
  · have hd1 : decide (at_ < -1) = true := decide_eq_true ha1
    have HA := Aside0.mk ha1
    clear ha1 hr
    go_enter Try.func14, Try.ntmps14
    go_wp2
    go_returns
    exact ⟨Below.refl _ _, .inl ⟨.inl HA.out, rfl⟩⟩
  by_cases ha2 : 1 < at_
  · have hd1 : decide (at_ < -1) = false := decide_eq_false ha1
    have hd2 : decide (1 < at_) = true := decide_eq_true ha2
    have HA := Aside0.mk ha2
    clear ha1 ha2 hr
    go_enter Try.func14, Try.ntmps14
    go_wp2
    go_returns
    exact ⟨Below.refl _ _, .inl ⟨.inr HA.out, rfl⟩⟩
  have hd1 : decide (at_ < -1) = false := decide_eq_false ha1
  have hd2 : decide (1 < at_) = false := decide_eq_false ha2
  have HA : Aside0 (-1 ≤ at_ ∧ at_ ≤ 1) := ⟨by omega⟩
  clear ha1 ha2
  by_cases hn : l.length ≤ 16384
  · have hd3 : decide ((16384 : Int) < l.length) = false := decide_eq_false (by omega)
    have HR := Aside0.mk hr
    have HN := Aside0.mk hn
    have HC := Aside0.mk hc
    obtain ⟨kc, cs, hcs, hcl⟩ := classes_some l hn
    have HCS := Aside0.mk hcs
    obtain ⟨km, ms, hms, hml, hmo, hmu⟩ := matches_some cs (by omega)
    have HMS := Aside0.mk hms
    have HCL := Aside0.mk (clone_some cs (by omega))
    obtain ⟨mc, hmk, hmR⟩ := make_cells l.length hn
    have HMR := Aside0.mk hmR
    have hn0 := Aside0.mk h0
    have HCLn := Aside0.mk hcl
    have HMLn := Aside0.mk hml
    have HMO := Aside0.mk hmo
    have HMU := Aside0.mk hmu
    clear hr hcs hms hmR hc h0 hcl hml hmo hmu
    go_enter Try.func14, Try.ntmps14
    go_upto_region 6 with (go_at_call 28; ((with_reducible refine Calls.mono (P.bidi_classes.calls kc A c l cs _ HR.out HC.out HCS.out) ?_); rintro e w1 ⟨v1, rfl, hr1, hb1⟩; have HR1 := Aside0.mk hr1; have HB1 := Aside0.mk hb1; clear hr1 hb1))
    obtain ⟨A1, c1, rfl, hcc, hC1⟩ := Kd.R_reads HR1.out
    have HRW : Aside0 (Rw w1 w1 []) := ⟨⟨Below.refl _ _, by simp, .nil⟩⟩
    have HC1 := Aside0.mk hC1
    have HC10 := Aside0.mk hC1
    have HCC := Aside0.mk hcc
    clear hC1 hcc
    go_cut [7] from 23 to 34 (fun s7 wx => ∃ (b : Nat) (vn vl vm : Value), s7 = .pointer (some ⟨b, 0, none⟩) ∧ Aside0 (w1.heap.size ≤ b) ∧ Aside0 (wx.heap[b]? = some (.cells #[.slice A l.length c, .slice A1 cs.length c1, vn, vl, vm, .int .i64 at_] 80 (0, 0))) ∧ Aside0 (Rw w1 wx [(vn, cs), (vl, List.replicate l.length 0), (vm, ms)]))
    case first =>
      go_region_with (first | (go_at_call 29; ((with_reducible refine Calls.mono (slices_Clone_int_int.calls A1 c1 cs cs _ ?rc HCC.out HCL.out) ?_); (case rc => (first | exact HC1.out | exact Kd.C_drew HC1.out | exact Kd.C_alloc HC1.out _ | exact Kd.C_alloc (Kd.C_drew HC1.out) _)); rintro e wn ⟨vn, rfl, hrn, hbn⟩; obtain ⟨An, cn, rfl⟩ := Kd.R_slice hrn; (first | (have hcn := Aside0.mk (Kd.C_below HC1.out hbn); have hrw := Aside0.mk (Rw.add HRW.out hrn hbn)) | (have hcn := Aside0.mk (Kd.C_below (Kd.C_drew HC1.out) hbn); have hrw := Aside0.mk (Rw.add HRW.out.drew hrn hbn)) | (have hcn := Aside0.mk (Kd.C_below (Kd.C_alloc HC1.out _) hbn); have hrw := Aside0.mk (Rw.add (Rw.add HRW.out (HMR.out _ _ (Nat.le_refl _)) (below_alloc (Below.refl _ _) _)) hrn hbn)) | (have hcn := Aside0.mk (Kd.C_below (Kd.C_alloc (Kd.C_drew HC1.out) _) hbn); have hrw := Aside0.mk (Rw.add (Rw.add HRW.out.drew (HMR.out _ _ (Nat.le_refl _)) (below_alloc (Below.refl _ _) _)) hrn hbn))); clear HC1 HRW; have HC1 := hcn; have HRW := hrw; clear hcn hrw hrn hbn)) | (go_at_call 30; ((with_reducible refine Calls.mono (P.bidi_matches.calls km A1 c1 cs ms _ ?rc HCC.out HMS.out) ?_); (case rc => (first | exact HC1.out | exact Kd.C_drew HC1.out | exact Kd.C_alloc HC1.out _ | exact Kd.C_alloc (Kd.C_drew HC1.out) _)); rintro e wm ⟨vm, rfl, hrm, hbm⟩; obtain ⟨Am, cm, rfl⟩ := Kd.R_slice hrm; (first | (have hcn := Aside0.mk (Kd.C_below HC1.out hbm); have hrw := Aside0.mk (Rw.add HRW.out hrm hbm)) | (have hcn := Aside0.mk (Kd.C_below (Kd.C_drew HC1.out) hbm); have hrw := Aside0.mk (Rw.add HRW.out.drew hrm hbm)) | (have hcn := Aside0.mk (Kd.C_below (Kd.C_alloc HC1.out _) hbm); have hrw := Aside0.mk (Rw.add (Rw.add HRW.out (HMR.out _ _ (Nat.le_refl _)) (below_alloc (Below.refl _ _) _)) hrm hbm)) | (have hcn := Aside0.mk (Kd.C_below (Kd.C_alloc (Kd.C_drew HC1.out) _) hbm); have hrw := Aside0.mk (Rw.add (Rw.add HRW.out.drew (HMR.out _ _ (Nat.le_refl _)) (below_alloc (Below.refl _ _) _)) hrm hbm))); clear HC1 HRW; have HC1 := hcn; have HRW := hrw; clear hcn hrw hrm hbm)))
      all_goals
      (go_wp2_with fail
       go_meet
       apply Exists.intro
       apply Exists.intro
       apply Exists.intro
       apply Exists.intro
       refine And.intro rfl (And.intro ⟨by have := HRW.out.be.size; omega⟩ (And.intro (Aside0.mk ?_) (Aside0.mk ?_)))
       · first | exact blk_new _ _ | (have h9 := blk_new (World.alloc wm (.cells mc 3)) (.cells #[.slice A l.length c, .slice A1 cs.length c1, .slice An cs.length cn, .slice (some ⟨wm.heap.size, 0, none⟩) l.length l.length, .slice Am ms.length cm, .int .i64 at_] 80); rw [World.size_alloc] at h9; exact h9)
       · first
           | exact Rw.perm (HRW.out.below (below_alloc (Below.refl _ _) _)) (List.reverse_perm [(_, _), (_, _), (_, _)])
           | exact Rw.perm (HRW.out.below (below_alloc (Below.refl _ _) _)) (List.perm_append_comm (l₁ := [(_, _)]) (l₂ := [(_, _), (_, _)]))
           | exact Rw.perm ((Rw.add HRW.out (HMR.out _ _ (Nat.le_refl _)) (below_alloc (Below.refl _ _) (.cells mc 3))).below (below_alloc (Below.refl _ _) _)) (List.perm_append_comm (l₁ := [(_, _), (_, _)]) (l₂ := [(_, _)])))
    case rest =>
      obtain ⟨b, vn, vl, vm, rfl, HBB, HBLK, HRWx⟩ := hcut
      obtain ⟨bN, bL, AM, cM, rfl, hcM, hbN, hbL, hlow, hTx⟩ := text_of (at_ := at_) HBLK.out HRWx.out HB1.out.size (Kd.C_below HR.out HB1.out) (Aside0.out HC10) hn0.out HCLn.out HMLn.out
      have HTx := Aside0.mk hTx
      have hTG : TG ⟨b, l.length, bN, bL, A, A1, AM, c, c1, cM, vn, vl, l, cs, ms, at_⟩ := ⟨HN.out, HCC.out, hcM, fun i h0 h1 => HMO.out i h0 (by have := HCLn.out; show i < _; have h2 : i < (l.length : Int) := h1; omega), fun i h0 h1 => by
        have h2 : i < (l.length : Int) := h1
        have h3 := HMU.out i h0 (by have := HCLn.out; omega)
        have h4 := HCLn.out
        show rd ms i < (l.length : Int)
        omega⟩
      have HTG := Aside0.mk hTG
      have hm3 := HRWx.out.row (.slice AM ms.length cM, ms) (by simp)
      have HAB : Aside0 (∀ ad, (A = some ad ∨ A1 = some ad ∨ AM = some ad) → ad.block ≠ b) := ⟨fun ad e => by
        have hbb := HBB.out
        have hcl' := HCLn.out
        have hp := hn0.out
        rcases e with e | e | e
        · have := C_low (Kd.C_below HR.out HB1.out) hp ad e; omega
        · have := C_low HC10.out (by omega) ad e; omega
        · obtain ⟨cells, hc⟩ := Kd.R_typed hm3 ad.block (by rw [e]; rfl)
          exact blk_ne hc HBLK.out (by decide)⟩
      have HBW : Aside0 (Below w.heap.size w wc) := ⟨HB1.out.trans (HRWx.out.be.mono HB1.out.size)⟩
      have HSz : Aside0 (bN < wc.heap.size ∧ bL < wc.heap.size ∧ w.heap.size ≤ bL) := ⟨⟨hbN, hbL, hlow⟩⟩
      have k4 : wc.cell? ⟨b, 4, none⟩ = some (.slice AM ms.length cM) := (blk_cell HBLK.out 4).trans rfl
      have k5 : wc.cell? ⟨b, 5, none⟩ = some (.int .i64 at_) := (blk_cell HBLK.out 5).trans rfl
      have kf := blk_frozen HBLK.out 5
      obtain ⟨rb, hrb⟩ := base_any hTx hTG 0 cs.length (by omega) (by have := HCLn.out; show (cs.length : Int) ≤ (l.length : Int); omega)
      have HBS : Aside0 (Calls Try.prog 31 #[.slice A1 cs.length c1, .slice AM ms.length cM, .int .i64 0, .int .i64 cs.length] wc fun e w' => e = .returned (.int .i64 rb) ∧ ∃ m, w' = wc.drewN m) := ⟨hrb 0⟩
      clear hTx hTG hrb hm3 hbN hbL hlow hcM HRWx HMR hmk HR1 HRW HC1
      obtain ⟨d0, hd0⟩ : ∃ d, decide (at_ < 0) = d := ⟨_, rfl⟩
      go_upto_if 36 with fail
      go_cut [] from 37 to 47 (fun wx => ∃ (t : TP) (xs ys : List Int), Aside0 (t.tp = b ∧ t.n = l.length) ∧ Aside0 (Tx w.heap.size t xs ys wx) ∧ Aside0 (TG t) ∧ Aside0 (t.bN < wx.heap.size ∧ t.bL < wx.heap.size ∧ w.heap.size ≤ t.bL) ∧ Aside0 (Below w.heap.size w wx))
      case first =>
        cases d0
        · go_wp2_with fail
          go_meet
          exact ⟨_, _, _, ⟨⟨rfl, rfl⟩⟩, HTx, HTG, HSz, HBW⟩
        · go_wp2_with (go_at_call 31; ((with_reducible refine HBS.out.mono ?_); rintro e w5 ⟨rfl, q5, rfl⟩; have HT5 := Aside0.mk ((HTx.out.below (pw_below_drewN (Below.refl _ _) q5)).setB (fun ad e => HAB.out ad e) rb)))
          go_meet
          exact ⟨_, _, _, ⟨⟨rfl, rfl⟩⟩, HT5, ⟨⟨HTG.out.n, HTG.out.cf, HTG.out.cm, HTG.out.ok, HTG.out.up⟩⟩, ⟨by have := HSz.out; simpa [World.setCell] using this⟩, ⟨(pw_below_drewN HBW.out q5).setCell (by have := HB1.out.size; have := HBB.out; show w.heap.size ≤ b; omega) _⟩⟩
      case rest =>
        clear HTx HTG HSz HBW k4 k5 kf HBS HAB HBB HBLK
        obtain ⟨t, xs, ys, HTN, HTx, HTG, HSz, HBW⟩ := hcut
        obtain ⟨htb, htn⟩ := HTN.out
        subst htb
        have HEX := Aside0.mk (explicit_any HTx.out HTG.out ⟨HSz.out.1, HSz.out.2.1⟩ HBW.out.size)
        go_wp2_with (first | (go_at_call 32; ((with_reducible refine HEX.out.mono ?_); rintro e w5 ⟨rfl, hx5, hc5⟩; have HX5 := Aside0.mk hx5; have HC5 := Aside0.mk hc5; clear hx5 hc5)))
        go_at_call 33
        obtain ⟨x5, y5, hx5⟩ := HX5.out
        have hz5 : t.bN < w5.heap.size ∧ t.bL < w5.heap.size := ⟨Nat.lt_of_lt_of_le HSz.out.1 HC5.out.size, Nat.lt_of_lt_of_le HSz.out.2.1 HC5.out.size⟩
        have hlo5 : w.heap.size ≤ w5.heap.size := Nat.le_trans HBW.out.size HC5.out.size
        refine Calls.mono (sequences_any hx5 HTG.out hz5 hlo5) ?_
        rintro e w6 ⟨hb6, N, vo, lo, l6, f, rfl, hN, hout, hq, hsub⟩
        have HLv : Aside0 (Lv w.heap.size t N vo lo l6 f w6) := ⟨⟨⟨_, _, hx5.below hb6⟩, Nat.le_trans hlo5 hb6.size, ⟨by omega, by omega⟩, hout, hq, hsub⟩⟩
        have HC6 : Aside0 (Ch w.heap.size t wc w6) := ⟨HC5.out.below hlo5 hb6⟩
        have HZ6 : Aside0 (t.bN < w6.heap.size ∧ t.bL < w6.heap.size) := ⟨Nat.lt_of_lt_of_le hz5.1 hb6.size, Nat.lt_of_lt_of_le hz5.2 hb6.size⟩
        obtain ⟨Ao, co, hvo, _, hCo⟩ := Kd.R_reads hout
        subst hvo
        have hll : lo.length ≤ 9223372036854775807 := hCo.2.1
        clear hx5 hout hq hN hb6 hlo5 hz5 hCo HX5 HC5 HEX HTx HSz
        go_wp2
        go_loopw [53] (fun s53 wq => ∃ (i : Int), s53 = .int .i64 i ∧ Aside0 (0 ≤ i ∧ i ≤ lo.length) ∧ Aside0 (Lv w.heap.size t N (.slice Ao lo.length co) lo l6 f wq) ∧ Aside0 (Ch w.heap.size t wc wq) ∧ Aside0 (t.bN < wq.heap.size ∧ t.bL < wq.heap.size)) (fun s53 _ => (lo.length - intOf s53).toNat)
        case atStart => exact ⟨0, rfl, ⟨by omega⟩, HLv, HC6, HZ6⟩
        case round =>
          clear HLv HC6 HZ6
          obtain ⟨i, rfl, HI, HLv, HC6, HZ6⟩ := hrel
          have hi0 := HI.out.1
          have hi1 := HI.out.2
          by_cases hil : i < lo.length
          · have hdi : decide (i < lo.length) = true := decide_eq_true hil
            have HIL := Aside0.mk hil
            have i9 : i < 9223372036854775807 := by omega
            obtain ⟨go, cg, hvo, _, _, _⟩ := Kd.R_form HLv.out.out (by omega)
            injection hvo with hAo hlen hcc
            subst hAo hcc
            clear hlen
            have hro := HLv.out.out
            have hcell := (Kd.R_cell (enc := fun sp : Nat => Value.pointer (some ⟨sp, 0, none⟩)) (h1 := fun _ => rfl) 0 hro i hi0 hil).1
            have hmem : rdOf 0 lo i ∈ lo := by
              unfold rdOf
              rw [List.getD_eq_getElem?_getD, List.getElem?_eq_getElem (by omega)]
              exact List.getElem_mem (by omega)
            obtain ⟨s, hsp, hfew, hsx⟩ := HLv.out.sx (hsub _ hmem)
            generalize rdOf 0 lo i = sp at *
            subst hsp
            have HFW := Aside0.mk hfew
            have HWk := Aside0.mk (weak_any hsx (by omega) HZ6.out)
            clear hro hsx hmem hfew
            go_wp2_with (first | (go_at_call 34; ((with_reducible refine HWk.out.mono ?_); rintro e w7 ⟨rfl, hs7, hc7⟩; have HBk := Aside0.mk (brackets_any hs7 HFW.out ⟨Nat.lt_of_lt_of_le HZ6.out.1 hc7.size, Nat.lt_of_lt_of_le HZ6.out.2 hc7.size⟩); have HC7 := Aside0.mk hc7; clear hs7 hc7)) | (go_at_call 35; ((with_reducible refine HBk.out.mono ?_); rintro e w8 ⟨rfl, hs8, hc8⟩; have HC8 := Aside0.mk (HC7.out.trans hc8); have HRs := Aside0.mk (rest_any hs8 (Nat.lt_of_le_of_lt HFW.out (by decide)) ⟨Nat.lt_of_lt_of_le HZ6.out.1 HC8.out.size, Nat.lt_of_lt_of_le HZ6.out.2 HC8.out.size⟩); clear hs8 hc8)) | (go_at_call 36; ((with_reducible refine HRs.out.mono ?_); rintro e w9 ⟨rfl, hs9, hc9⟩; have HC9 := Aside0.mk (HC8.out.trans hc9); have HL9 := Aside0.mk (HLv.out.to hs9.tx HC9.out); clear hs9 hc9)))
            exact ⟨⟨i + 1, rfl, ⟨by have := HIL.out; omega⟩, HL9, ⟨HC6.out.trans HC9.out⟩, ⟨Nat.lt_of_lt_of_le HZ6.out.1 HC9.out.size, Nat.lt_of_lt_of_le HZ6.out.2 HC9.out.size⟩⟩, by have := HIL.out; simp [intOf]; omega⟩
          · have hdi : decide (i < lo.length) = false := decide_eq_false hil
            clear hil
            have HEn := Aside0.mk (ends_any (w := wr) ⟨HLv.out.tx, Ch.refl _ _ _, HLv.out.lo'⟩ HTG.out.n)
            go_wp2_with (go_at_call 37; ((with_reducible refine HEn.out.mono ?_); rintro e w9 ⟨rfl, ht9⟩; have HT9 := Aside0.mk ht9; obtain ⟨x9, y9, hx9⟩ := ht9.tx; have HX9 := Aside0.mk hx9; have k9 : w9.cell? ⟨t.tp, 3, none⟩ = some t.vl := (blk_cell hx9.blk 3).trans rfl; clear ht9 hx9))
            go_returns
            exact ⟨HBW.out.trans (HC6.out.trans HT9.out.ch).bel, .inr (.inr ⟨HA.out, HN.out, t.vl, y9, rfl, Kd.R_mono HX9.out.lev (fun _ _ => trivial), by have := HX9.out.lens; omega⟩)⟩
  · have hd3 : decide ((16384 : Int) < l.length) = true := decide_eq_true (by omega)
    have HN : Aside0 (16384 < l.length) := ⟨by omega⟩
    clear hn hr
    go_enter Try.func14, Try.ntmps14
    go_wp2
    go_returns
    exact ⟨Below.refl _ _, .inr (.inl ⟨HA.out, HN.out, rfl⟩)⟩
end Go.Proofs.Yteoonjnmghponaa.F
namespace Go.Proofs.Yteoonjnmghponaa.F
open Go.RowKit Go.Proofs.YteoonjnmghponaaW.PrintWords Go.Proofs.YteoonjnmghponaaW.PrintLast Go.Proofs.YteoonjnmghponaaW.PrintMore
set_option linter.unusedVariables false
set_option linter.unusedSimpArgs false
/-- The last run's end is written. -/
theorem last_put {W : World} {N g c : Nat} {rs : List Ru} {r : Ru} (h : kRu.R 54 W N (fun _ => True) (.slice (some ⟨g, 0, none⟩) (rs ++ [r]).length c) (rs ++ [r])) (x : Int) : (W.cell? ⟨g, rs.length * 4 + 1, none⟩ = some (.int .i64 r.f1) ∧ W.cell? ⟨g, rs.length * 4 + 2, none⟩ = some (.int .i64 r.f2) ∧ W.cell? ⟨g, rs.length * 4 + 3, none⟩ = some (.int .i64 r.f3) ∧ W.frozen? ⟨g, rs.length * 4 + 1, none⟩ = false) ∧ kRu.R 54 (W.setCell ⟨g, rs.length * 4 + 1, none⟩ (.int .i64 x)) N (fun _ => True) (.slice (some ⟨g, 0, none⟩) (rs ++ [r]).length c) (rs ++ [{ r with f1 := x }]) := by
 have hi : ((rs.length : Int)).toNat = rs.length := Int.toNat_natCast _
 obtain ⟨cs, hl, hM, h1, h2⟩ := Kd.R_elem h zRu (rs.length : Int) (by omega) (by simp; omega)
 have hg : (rs ++ [r]).getD ((rs.length : Int)).toNat zRu = r := by rw [hi]; simp
 rw [hg] at hM
 have e := kRu_openM hM
 rw [hi] at h1 h2
 subst e
 have hs := Kd.R_seg h (rs.length : Int) (by omega) (by simp; omega) (c := [.int .i64 r.f0, .int .i64 r.f1, .int .i64 r.f2, .int .i64 r.f3]) (seg := [.int .i64 x]) (j := 1) rfl (by rw [hi]; exact h1) (by show 1 + 1 ≤ 4; decide) (x' := { r with f1 := x }) (okp := fun k => True ∧ k ≠ g) (kRu_mkM _ _ _ _) (fun k hk => hk)
 rw [hi] at hs
 refine ⟨⟨h1 1 _ rfl, h1 2 _ rfl, h1 3 _ rfl, h2 1⟩, ?_⟩
 have h3 := hs.1
 rw [List.set_append_right _ _ (by omega), Nat.sub_self] at h3
 exact h3
set_option maxRecDepth 100000 in
set_option maxHeartbeats 8000000 in
theorem split_any {A : Option Addr} {c : Nat} {l : List Int} {w : World} (hr : Kd.C (Kd.int .i64) w A l.length l) (hc : l.length ≤ c) (h0 : 0 < l.length) (at_ : Int) :
  Calls Try.prog 13 #[.slice A l.length c, .int .i64 at_] w fun e w' => Below w.heap.size w w' ∧ (((at_ < -1 ∨ 1 < at_) ∧ e = .returned (.tuple #[.slice none 0 0, .int .i64 135])) ∨ ((-1 ≤ at_ ∧ at_ ≤ 1) ∧ 16384 < l.length ∧ e = .returned (.tuple #[.slice none 0 0, .int .i64 133])) ∨ ((-1 ≤ at_ ∧ at_ ≤ 1) ∧ l.length ≤ 16384 ∧ ∃ v rs, e = .returned (.tuple #[v, .int .i64 0]) ∧ kRu.R 54 w' w.heap.size (fun _ => True) v rs ∧ Cov 0 rs l.length)) := by
 have HR := Aside0.mk hr
 have HC := Aside0.mk hc
 have HL := Aside0.mk (levels_any hr hc h0 at_)
 have h0' := Aside0.mk h0
 clear hr hc h0
 go_enter Try.func13, Try.ntmps13
 go_wp2_with fail
 go_at_call 14
 refine HL.out.mono ?_
 rintro e w1 ⟨hb, ⟨ha, rfl⟩ | ⟨ha, hn, rfl⟩ | ⟨ha, hn, v, ys, rfl, hR, hyl⟩⟩
 ·have HB := Aside0.mk hb
  have HA := Aside0.mk ha
  clear hb ha
  go_wp2
  go_returns
  exact ⟨HB.out, .inl ⟨HA.out, rfl⟩⟩
 ·have HB := Aside0.mk hb
  have HA := Aside0.mk ha
  have HN := Aside0.mk hn
  clear hb ha hn
  go_wp2
  go_returns
  exact ⟨HB.out, .inr (.inl ⟨HA.out, HN.out, rfl⟩)⟩
 ·have HB := Aside0.mk hb
  have HA := Aside0.mk ha
  have HN := Aside0.mk hn
  obtain ⟨ks, rsc, hsc, hscl⟩ := scripts_some l hn
  have HS := Aside0.mk hsc
  obtain ⟨gL, cL, rfl, _, _, _, _⟩ := R_of1 hR (by have := h0'.out; omega)
  have HRL := Aside0.mk hR
  clear hb ha hsc hR
  go_wp2_with (go_at_call 27; ((with_reducible refine Calls.mono (P.runs_Scripts.calls ks A c l rsc _ (Kd.C_below HR.out HB.out) HC.out HS.out) ?_); rintro e w2 ⟨v2, rfl, hr2, hb2⟩; have HR2 := Aside0.mk hr2; have HB2 := Aside0.mk hb2; clear hr2 hb2))
  obtain ⟨g2, c2, rfl, _, _, _, _⟩ := R_of1 HR2.out (by have := h0'.out; omega)
  obtain ⟨_, _, e1, _, hCL⟩ := Kd.R_reads HRL.out
  injection e1 with e1 e2 e3
  subst e1
  obtain ⟨_, _, e4, _, hCS⟩ := Kd.R_reads HR2.out
  injection e4 with e4 e5 e6
  subst e4
  rw [hyl] at hCL
  rw [hscl] at hCS
  have HCL := Aside0.mk (Kd.C_below hCL HB2.out)
  have HCS := Aside0.mk hCS
  try rw [hyl]
  try rw [hscl]
  have hn1 : (l.length : Int) ≤ 16384 := by omega
  clear e2 e3 e5 e6 hCL hCS HRL HR2 hyl hscl
  go_loopw [9, 25] (fun s9 s25 wq => ∃ (i : Int) (rs : List Ru), s25 = .int .i64 i ∧ Aside0 (0 ≤ i ∧ i ≤ l.length) ∧ Aside0 (Below w2.heap.size w2 wq) ∧ Aside0 (kRu.R 54 wq w2.heap.size (fun _ => True) s9 rs) ∧ Aside0 (Cov 0 rs i) ∧ Aside0 ((rs.length : Int) ≤ i)) (fun _ s25 _ => (l.length - intOf s25).toNat)
  case atStart => exact ⟨0, [], rfl, ⟨by omega⟩, ⟨Below.refl _ _⟩, ⟨Kd.R_nil _ _ _ _ _⟩, ⟨rfl⟩, ⟨by simp⟩⟩
  case round =>
   obtain ⟨i, rs, rfl, HI, HB3, HO, HCv, HRn⟩ := hrel
   have hi0 := HI.out.1
   have hi1 := HI.out.2
   have hrn := HRn.out
   by_cases hil : i < l.length
   ·have hd : decide (i < l.length) = true := decide_eq_true hil
    have HLT := Aside0.mk hil
    have i9 : i < 9223372036854775807 := by omega
    have hwr : IntKind.i64.wrap (i + 1) = i + 1 := IntWalk.i64_in _ (by omega)
    obtain ⟨a1, ea1, hlv⟩ := Kd.at_int (Kd.C_below HCL.out HB3.out) i hi0 hil
    cases ea1
    obtain ⟨a2, ea2, hsc⟩ := Kd.at_int (Kd.C_below HCS.out HB3.out) i hi0 hil
    cases ea2
    rw [add_plain] at hlv hsc
    generalize rd ys i = lv at *
    generalize rd rsc i = sc at *
    rcases List.eq_nil_or_concat rs with hnil | ⟨pre, r, hcat⟩
    ·subst hnil
     obtain ⟨Ao, co, ho, _, _⟩ := Kd.R_reads HO.out
     subst ho
     go_wp2
     refine wp_region_quiet_lit (by kernel_rfl) (by kernel_rfl) ?_
     repeat (go_big_quiet_step (fail))
     refine wpQuiet_nil ?_
     intro _ hw'
     obtain ⟨nq, hw''⟩ := hw'
     subst hw''
     go_wp2
     go_region_law ((refine Kd.R_append_step kRu (w0 := w2) w2.heap.size (by rfl) (.tmp 63) (.tmp 76) 48 54 (.agg #[(.int .i64 0), (.int .i64 0), (.int .i64 0), (.int .i64 0)]) 32 rfl Try.underlying48 infoRu rfl (by decide) (by omega) _ [] (⟨i, i + 1, lv, sc⟩ : Ru) [.int .i64 i, .int .i64 (i + 1), .int .i64 lv, .int .i64 sc] (fun _ => True) (fun _ => False) (by rfl) (by rfl) ?aP (fun _ hk => hk.elim) ?aF ?aO ?aB ?aS ?aL ?_; (case aP => exact kRu_mkM _ _ _ (⟨i, i + 1, lv, sc⟩ : Ru)); (case aB => exact (by first | exact (pw_below_drewN HB3.out _).drew | exact HB3.out.drew | exact pw_below_drewN HB3.out _)); (case aF => exact (fun _ _ => trivial)); (case aO => exact (by first | exact Kd.R_drew (Kd.R_drewN HO.out _) | exact Kd.R_drew HO.out | exact Kd.R_drewN HO.out _)); (case aS => exact HB3.out.size); (case aL => omega); intro v9 w9 ho hb hg hat; have HO9 := Aside0.mk ho; have HB9 := Aside0.mk hb; clear ho hb hg hat))
     all_goals
      go_wp2
      exact ⟨⟨i + 1, _, rfl, ⟨by have := HLT.out; omega⟩, HB9, HO9, ⟨HCv.out.app (by omega)⟩, ⟨by have := hrn; simp at this ⊢; omega⟩⟩, by have := HLT.out; simp [intOf]; omega⟩
    ·rw [List.concat_eq_append] at hcat
     subst hcat
     obtain ⟨g, co, ho, hgN, _, _⟩ := Kd.R_form HO.out (by simp)
     subst ho
     obtain ⟨⟨q1, q2, q3, qf⟩, _⟩ := last_put HO.out (i + 1)
     have HPut := Aside0.mk (fun W (hW : kRu.R 54 W w2.heap.size (fun _ => True) (.slice (some ⟨g, 0, none⟩) (pre ++ [r]).length co) (pre ++ [r])) => (last_put hW (i + 1)).2)
     have HOq : Aside0 (kRu.R 54 wr w2.heap.size (fun _ => True) (.slice (some ⟨g, 0, none⟩) (pre.length + 1) co) (pre ++ [r])) := ⟨by have := HO.out; rw [List.length_append] at this; exact this⟩
     have hpl0 : (0 : Int) ≤ pre.length := Int.natCast_nonneg _
     have hpl1 : (pre.length : Int) ≤ 16384 := by have := hrn; simp at this; omega
     obtain ⟨d1, e1⟩ : ∃ d, (r.f2 == lv) = d := ⟨_, rfl⟩
     obtain ⟨d2, e2⟩ : ∃ d, (r.f3 == sc) = d := ⟨_, rfl⟩
     cases d1
     ·go_wp2
      refine wp_region_quiet_lit (by kernel_rfl) (by kernel_rfl) ?_
      repeat (go_big_quiet_step (fail))
      refine wpQuiet_nil ?_
      intro _ hw'
      obtain ⟨nq, hw''⟩ := hw'
      subst hw''
      go_wp2
      go_region_law ((refine Kd.R_append_step kRu (w0 := w2) w2.heap.size (by rfl) (.tmp 63) (.tmp 76) 48 54 (.agg #[(.int .i64 0), (.int .i64 0), (.int .i64 0), (.int .i64 0)]) 32 rfl Try.underlying48 infoRu rfl (by decide) (by omega) _ (pre ++ [r]) (⟨i, i + 1, lv, sc⟩ : Ru) [.int .i64 i, .int .i64 (i + 1), .int .i64 lv, .int .i64 sc] (fun _ => True) (fun _ => False) (by rfl) (by rfl) ?aP (fun _ hk => hk.elim) ?aF ?aO ?aB ?aS ?aL ?_; (case aP => exact kRu_mkM _ _ _ (⟨i, i + 1, lv, sc⟩ : Ru)); (case aB => exact (by first | exact (pw_below_drewN HB3.out _).drew | exact HB3.out.drew | exact pw_below_drewN HB3.out _)); (case aF => exact (fun _ _ => trivial)); (case aO => exact (by first | exact Kd.R_drew (Kd.R_drewN HOq.out _) | exact Kd.R_drew HOq.out | exact Kd.R_drewN HOq.out _)); (case aS => exact HB3.out.size); (case aL => omega); intro v9 w9 ho hb hg hat; have HO9 := Aside0.mk ho; have HB9 := Aside0.mk hb; clear ho hb hg hat))
      all_goals
       go_wp2
       exact ⟨⟨i + 1, _, rfl, ⟨by have := HLT.out; omega⟩, HB9, HO9, ⟨HCv.out.app (by omega)⟩, ⟨by have := hrn; simp at this ⊢; omega⟩⟩, by have := HLT.out; simp [intOf]; omega⟩
     ·cases d2
      ·go_wp2
       refine wp_region_quiet_lit (by kernel_rfl) (by kernel_rfl) ?_
       repeat (go_big_quiet_step (fail))
       refine wpQuiet_nil ?_
       intro _ hw'
       obtain ⟨nq, hw''⟩ := hw'
       subst hw''
       go_wp2
       go_region_law ((refine Kd.R_append_step kRu (w0 := w2) w2.heap.size (by rfl) (.tmp 63) (.tmp 76) 48 54 (.agg #[(.int .i64 0), (.int .i64 0), (.int .i64 0), (.int .i64 0)]) 32 rfl Try.underlying48 infoRu rfl (by decide) (by omega) _ (pre ++ [r]) (⟨i, i + 1, lv, sc⟩ : Ru) [.int .i64 i, .int .i64 (i + 1), .int .i64 lv, .int .i64 sc] (fun _ => True) (fun _ => False) (by rfl) (by rfl) ?aP (fun _ hk => hk.elim) ?aF ?aO ?aB ?aS ?aL ?_; (case aP => exact kRu_mkM _ _ _ (⟨i, i + 1, lv, sc⟩ : Ru)); (case aB => exact (by first | exact (pw_below_drewN HB3.out _).drew | exact HB3.out.drew | exact pw_below_drewN HB3.out _)); (case aF => exact (fun _ _ => trivial)); (case aO => exact (by first | exact Kd.R_drew (Kd.R_drewN HOq.out _) | exact Kd.R_drew HOq.out | exact Kd.R_drewN HOq.out _)); (case aS => exact HB3.out.size); (case aL => omega); intro v9 w9 ho hb hg hat; have HO9 := Aside0.mk ho; have HB9 := Aside0.mk hb; clear ho hb hg hat))
       all_goals
        go_wp2
        exact ⟨⟨i + 1, _, rfl, ⟨by have := HLT.out; omega⟩, HB9, HO9, ⟨HCv.out.app (by omega)⟩, ⟨by have := hrn; simp at this ⊢; omega⟩⟩, by have := HLT.out; simp [intOf]; omega⟩
      ·go_wp2
       refine wp_region_quiet_lit (by kernel_rfl) (by kernel_rfl) ?_
       repeat (go_big_quiet_step (fail))
       refine wpQuiet_nil ?_
       intro _ hw'
       obtain ⟨nq, hw''⟩ := hw'
       subst hw''
       go_wp2
       exact ⟨⟨i + 1, pre ++ [{ r with f1 := i + 1 }], rfl, ⟨by have := HLT.out; omega⟩, ⟨(pw_below_drewN HB3.out _).setCell hgN _⟩, ⟨by have := HPut.out _ (Kd.R_drewN HO.out nq); simpa using this⟩, ⟨HCv.out.last (by omega)⟩, ⟨by have := hrn; simp at this ⊢; omega⟩⟩, by have := HLT.out; simp [intOf]; omega⟩
   ·have hd : decide (i < l.length) = false := decide_eq_false hil
    have hie : i = l.length := by omega
    clear hil
    go_wp2
    go_returns
    exact ⟨HB.out.trans ((HB2.out.mono HB.out.size).trans (HB3.out.mono (Nat.le_trans HB.out.size HB2.out.size))), .inr (.inr ⟨HA.out, HN.out, _, rs, rfl, Kd.R_lower HO.out (Nat.le_trans HB.out.size HB2.out.size), hie ▸ HCv.out⟩)⟩
end Go.Proofs.Yteoonjnmghponaa.F
namespace Go.Proofs.Yteoonjnmghponaa.W
open Go.RowKit Go.Proofs.Yteoonjnmghponaa.F Go.Proofs.YteoonjnmghponaaW.PrintWords Go.Proofs.YteoonjnmghponaaW.PrintLast Go.Proofs.YteoonjnmghponaaW.PrintMore
set_option linter.unusedVariables false
set_option linter.unusedSimpArgs false
theorem small_dec {A : Option Addr} {c : Nat} {W : World} {base : Nat} (h : Kd.R (Kd.int .u8) 5 W base (fun _ => True) (.slice A 3 c) [97, 10, 98]) : Calls Try.prog 10 #[.slice A 3 c] W fun e w' => ∃ A' c', e = .returned (.slice A' 3 c') ∧ Kd.R (Kd.int .i64) 3 w' W.heap.size (fun _ => True) (.slice A' 3 c') [97, 10, 98] ∧ Below W.heap.size W w' := by
 refine (utf_Decode.calls A c [97, 10, 98] [97, 10, 98] W (Kd.R_reads' h).2.2 (Kd.R_reads' h).2.1 dec0).mono ?_
 rintro e w' ⟨v, rfl, ho, hb⟩
 obtain ⟨A', c', rfl⟩ := Kd.R_slice ho
 exact ⟨A', c', rfl, ho, hb⟩
theorem small_par {A : Option Addr} {c : Nat} {W : World} {base : Nat} (h : Kd.R (Kd.int .i64) 3 W base (fun _ => True) (.slice A 3 c) [97, 10, 98]) : Calls Try.prog 11 #[.slice A 3 c] W fun e w' => ∃ A' c', e = .returned (.slice A' 2 c') ∧ Below W.heap.size W w' := by
 obtain ⟨k0, p0, hP0, hP0l⟩ := paras0
 refine (P.runs_Paragraphs.calls k0 A c [97, 10, 98] p0 W (Kd.R_reads' h).2.2 (Kd.R_reads' h).2.1 hP0).mono ?_
 rintro e w' ⟨v, rfl, ho, hb⟩
 obtain ⟨A', c', rfl⟩ := Kd.R_slice ho
 rw [hP0l]
 exact ⟨A', c', rfl, hb⟩
/-- Since the world w2, in which v2 was the row's value, only its own block has been written, and new ones; the row now holds o. -/
structure Ou (w9 w2 : World) (v2 : Value) (W : World) (v : Value) (o : List Int) : Prop where
 be : Below w9.heap.size w9 W
 sz : w2.heap.size ≤ W.heap.size
 fx : ∀ k, k < w2.heap.size → some k ≠ v2.ownBlock → W.heap[k]? = w2.heap[k]?
 row : Kd.R (Kd.int .i64) 3 W w9.heap.size (fun k => some k = v2.ownBlock ∨ w2.heap.size ≤ k) v o
theorem Ou.start {w9 w2 : World} {v : Value} {o : List Int} {ok : Nat → Prop} (hb : Below w9.heap.size w9 w2) (h : Kd.R (Kd.int .i64) 3 w2 w9.heap.size ok v o) : Ou w9 w2 v w2 v o :=
 ⟨hb, Nat.le_refl _, fun _ _ _ => rfl, Kd.R_mono (Kd.R_tight rfl h) (fun k hk => .inl hk)⟩
theorem Ou.below {w9 w2 W W' : World} {v2 v : Value} {o : List Int} (h : Ou w9 w2 v2 W v o) (hb : Below W.heap.size W W') : Ou w9 w2 v2 W' v o :=
 ⟨below_then h.be h.be.size hb, Nat.le_trans h.sz hb.size, fun k hk hne => (hb.block k (by have := h.sz; omega)).trans (h.fx k hk hne), Kd.R_below h.row hb⟩
theorem Ou.drewN {w9 w2 W : World} {v2 v : Value} {o : List Int} (h : Ou w9 w2 v2 W v o) (n : Nat) : Ou w9 w2 v2 (W.drewN n) v o := h.below (pw_below_drewN (Below.refl _ _) n)
theorem Ou.own {w9 w2 W : World} {v2 v : Value} {o : List Int} (h : Ou w9 w2 v2 W v o) {k : Nat} (hk : some k = v.ownBlock) : some k = v2.ownBlock ∨ w2.heap.size ≤ k := h.row.1 k hk.symm
theorem Ou.rebase {w9 w2 W : World} {v2 v : Value} {o : List Int} (h : Ou w9 w2 v2 W v o) : Ou w9 W v W v o := Ou.start h.be h.row
theorem Ou.trans {w9 w2 W W' : World} {v2 v v' : Value} {o o' : List Int} (h : Ou w9 w2 v2 W v o) (h' : Ou w9 W v W' v' o') : Ou w9 w2 v2 W' v' o' :=
 ⟨h'.be, Nat.le_trans h.sz h'.sz, fun k hk hne => (h'.fx k (Nat.lt_of_lt_of_le hk h.sz) (fun e => by
  rcases h.own e with e2 | e2
  ·exact hne e2
  ·omega)).trans (h.fx k hk hne), Kd.R_mono h'.row (fun k hk => by
  rcases hk with e | e
  ·exact h.own e
  ·exact .inr (Nat.le_trans h.sz e))⟩
theorem Ou.push {w9 w2 W W' : World} {v2 v v' : Value} {o o' : List Int} (h : Ou w9 w2 v2 W v o) (hR : Kd.R (Kd.int .i64) 3 W' w9.heap.size (fun k => some k = v2.ownBlock ∨ w2.heap.size ≤ k) v' o') (hb : Below w9.heap.size w9 W') (hg : W.grownBy W' v.ownBlock) : Ou w9 w2 v2 W' v' o' :=
 ⟨hb, Nat.le_trans h.sz hg.size, fun k hk hne => (hg.block k (Nat.lt_of_lt_of_le hk h.sz) (fun e => by
  rcases h.own e with e2 | e2
  ·exact hne e2
  ·omega)).trans (h.fx k hk hne), hR⟩
theorem Ou.set {w9 w2 W : World} {v2 v : Value} {o : List Int} (h : Ou w9 w2 v2 W v o) {p : Addr} (hp : W.heap.size ≤ p.block) (x : Value) : Ou w9 w2 v2 (W.setCell p x) v o := h.below ((Below.refl _ _).setCell hp x)
/-- Any other row of the elder world still stands. -/
theorem Ou.other {α : Type} {d : Kd α} {e b : Nat} {w9 w2 W : World} {v2 v : Value} {o : List Int} {ok : Nat → Prop} {u : Value} {ys : List α} (h : Ou w9 w2 v2 W v o) (hu : d.R e w2 b ok u ys) (hok : ∀ k, ok k → some k ≠ v2.ownBlock) : d.R e W b ok u ys :=
 Kd.R_step hu (fun k hk hlt => h.fx k hlt (hok k hk))
/-- A row that is made since then is not the row that is filled. -/
theorem Ou.apart {α : Type} {d : Kd α} {e b : Nat} {w9 w2 W W' : World} {v2 v : Value} {o : List Int} {ok : Nat → Prop} {u : Value} {ys : List α} (h : Ou w9 w2 v2 W v o) (hW : W.heap.size ≤ b) (hu : d.R e W' b ok u ys) : d.R e W' b (fun k => ok k ∧ some k ≠ v.ownBlock) u ys :=
 Kd.R_mono (Kd.R_bound hu) (fun k hk => ⟨hk.1, fun e => by
  have := Kd.R_lt h.row k e.symm
  have := hk.2.1
  omega⟩)
theorem par_len (M : List Int) : ∀ (ps : List P.S47) (a b : Int), Par M a ps b → (ps.length : Int) ≤ b - a
 | [], a, b, h => by
  have : a = b := h
  simp
  omega
 | p :: ps, a, b, ⟨h0, h1, h2, _, h3⟩ => by
  have := par_len M ps p.f1 b h3
  simp
  omega
/-- Where the law stands among the paragraphs. -/
def At (l M : List Int) (ps : List P.S47) (i : Int) (o : List Int) : Prop := ∃ p : Int, 0 ≤ p ∧ p ≤ l.length ∧ o = l.take p.toNat ∧ Par M p (ps.drop i.toNat) l.length
theorem At.len {l M : List Int} {ps : List P.S47} {i : Int} {o : List Int} (h : At l M ps i o) : o.length ≤ l.length := by
 obtain ⟨p, h0, h1, rfl, _⟩ := h
 simp
 omega
theorem At.next {l M : List Int} {ps : List P.S47} {i : Int} {o : List Int} (h : At l M ps i o) (h0 : 0 ≤ i) (h1 : i < ps.length) :
  ∃ a q : Int, P.rd_T47 ps i = ⟨a, q + 1⟩ ∧ a = o.length ∧ 0 ≤ a ∧ a ≤ q ∧ q < l.length ∧ rd M q = 2 ∧ At l M ps (i + 1) (o ++ (l.take (q + 1).toNat).drop a.toNat) := by
 obtain ⟨p, p0, p1, rfl, hP⟩ := h
 have hi : i.toNat < ps.length := by omega
 rw [List.drop_eq_getElem_cons hi] at hP
 obtain ⟨e0, lt, le, hm, hP'⟩ := hP
 have er : P.rd_T47 ps i = ps[i.toNat] := by
  unfold P.rd_T47
  rw [List.getD_eq_getElem?_getD, List.getElem?_eq_getElem hi]
  rfl
 have el : ((l.take p.toNat).length : Int) = p := by rw [List.length_take]; omega
 refine ⟨p, ps[i.toNat].f1 - 1, ?_, el.symm, p0, by omega, by omega, hm, ps[i.toNat].f1, by omega, by omega, ?_, ?_⟩
 ·rw [er, ← e0, show ps[i.toNat].f1 - 1 + 1 = ps[i.toNat].f1 by omega]
 ·rw [show ps[i.toNat].f1 - 1 + 1 = ps[i.toNat].f1 by omega]
  have : l.take p.toNat = (l.take ps[i.toNat].f1.toNat).take p.toNat := by rw [List.take_take, Nat.min_eq_left (by omega)]
  rw [this, List.take_append_drop]
 ·rw [show (i + 1).toNat = i.toNat + 1 by omega]
  exact hP'
theorem At.done {l M : List Int} {ps : List P.S47} {i : Int} {o : List Int} (h : At l M ps i o) (h1 : ¬ i < ps.length) : o = l := by
 obtain ⟨p, p0, p1, rfl, hP⟩ := h
 rw [List.drop_eq_nil_of_le (by omega)] at hP
 have : p = l.length := hP
 rw [this, Int.toNat_natCast, List.take_length]
/-- Where the law stands among a paragraph's runs. -/
def CovAt (pt o : List Int) (rs : List Ru) (j : Int) (o2 : List Int) : Prop := ∃ p : Int, 0 ≤ p ∧ p ≤ pt.length ∧ o2 = o ++ pt.take p.toNat ∧ Cov p (rs.drop j.toNat) pt.length
theorem CovAt.next {pt o o2 : List Int} {rs : List Ru} {j : Int} (h : CovAt pt o rs j o2) (h0 : 0 ≤ j) (h1 : j < rs.length) :
  ∃ (r : Ru) (p q : Int), rs.getD j.toNat zRu = r ∧ r.f0 = p ∧ r.f1 = q ∧ 0 ≤ p ∧ p < q ∧ q ≤ pt.length ∧ (o2.length : Int) = o.length + p ∧ CovAt pt o rs (j + 1) (o2 ++ (pt.take q.toNat).drop p.toNat) := by
 obtain ⟨p, p0, p1, rfl, hP⟩ := h
 have hi : j.toNat < rs.length := by omega
 rw [List.drop_eq_getElem_cons hi] at hP
 obtain ⟨e0, lt, hP'⟩ := hP
 have er : rs.getD j.toNat zRu = rs[j.toNat] := by
  rw [List.getD_eq_getElem?_getD, List.getElem?_eq_getElem hi]
  rfl
 have hle := hP'.le
 refine ⟨rs[j.toNat], p, rs[j.toNat].f1, er, e0, rfl, p0, lt, hle, ?_, rs[j.toNat].f1, by omega, hle, ?_, ?_⟩
 ·rw [List.length_append, List.length_take]
  omega
 ·rw [List.append_assoc]
  congr 1
  have : pt.take p.toNat = (pt.take rs[j.toNat].f1.toNat).take p.toNat := by rw [List.take_take, Nat.min_eq_left (by omega)]
  rw [this, List.take_append_drop]
 ·rw [show (j + 1).toNat = j.toNat + 1 by omega]
  exact hP'
theorem CovAt.done {pt o o2 : List Int} {rs : List Ru} {j : Int} (h : CovAt pt o rs j o2) (h1 : ¬ j < rs.length) : o2 = o ++ pt := by
 obtain ⟨p, p0, p1, rfl, hP⟩ := h
 rw [List.drop_eq_nil_of_le (by omega)] at hP
 have : p = pt.length := hP
 rw [this, Int.toNat_natCast, List.take_length]
theorem cov_len : ∀ (rs : List Ru) (a b : Int), Cov a rs b → (rs.length : Int) ≤ b - a
 | [], a, b, h => by
  have : a = b := h
  simp
  omega
 | r :: rs, a, b, ⟨h0, h1, h3⟩ => by
  have := cov_len rs r.f1 b h3
  simp
  omega
/-- The places from j on are not shown yet. -/
def Seen (n : Nat) (r : List Int) (sh : List Bool) (j : Int) : Prop := sh.length = n ∧ ∀ i : Int, j ≤ i → i < r.length → rdOf false sh (rd r i) = false
theorem perm_in {r : List Int} {n : Nat} (h : r.Perm (iota n)) {i : Int} (h0 : 0 ≤ i) (h1 : i < r.length) : 0 ≤ rd r i ∧ rd r i < n := by
 have hm : rd r i ∈ iota n := h.mem_iff.1 (rd_in h0 h1)
 obtain ⟨k, hk, e⟩ := List.mem_map.1 hm
 have := List.mem_range.1 hk
 rw [← e]
 exact ⟨Int.natCast_nonneg _, by show ((k : Nat) : Int) < n; omega⟩
theorem perm_len {r : List Int} {n : Nat} (h : r.Perm (iota n)) : r.length = n := by rw [h.length_eq]; simp [iota]
theorem perm_ne {r : List Int} {n : Nat} (h : r.Perm (iota n)) {i j : Int} (h0 : 0 ≤ i) (hij : i < j) (h1 : j < r.length) : rd r j ≠ rd r i := by
 have hnd : (iota n).Nodup := by
  unfold iota
  exact List.Pairwise.map _ (fun a b hab e => hab (Int.ofNat.inj e)) List.nodup_range
 have hr : r.Nodup := h.nodup_iff.2 hnd
 have hi : i.toNat < r.length := by omega
 have hj : j.toNat < r.length := by omega
 have e1 : rd r i = r[i.toNat] := by unfold rd; rw [List.getD_eq_getElem?_getD, List.getElem?_eq_getElem hi]; rfl
 have e2 : rd r j = r[j.toNat] := by unfold rd; rw [List.getD_eq_getElem?_getD, List.getElem?_eq_getElem hj]; rfl
 rw [e1, e2]
 intro e
 have := (List.getElem_inj hr).1 e
 omega
theorem Seen.start {n : Nat} {r : List Int} : Seen n r (List.replicate n false) 0 := by
 refine ⟨by simp, fun i _ _ => ?_⟩
 unfold rdOf
 rw [List.getD_eq_getElem?_getD, List.getElem?_replicate]
 split <;> rfl
theorem Seen.next {n : Nat} {r : List Int} {sh : List Bool} {j : Int} (h : Seen n r sh j) (hp : r.Perm (iota n)) (h0 : 0 ≤ j) (h1 : j < r.length) : Seen n r (sh.set (rd r j).toNat true) (j + 1) := by
 refine ⟨by rw [List.length_set]; exact h.1, fun i hi hir => ?_⟩
 have hne := perm_ne hp h0 (show j < i by omega) hir
 have ha := perm_in hp h0 h1
 have hb := perm_in hp (show 0 ≤ i by omega) hir
 have := h.2 i (by omega) hir
 unfold rdOf at this ⊢
 rw [List.getD_eq_getElem?_getD, List.getElem?_set_ne (by omega), ← List.getD_eq_getElem?_getD]
 exact this
end Go.Proofs.Yteoonjnmghponaa.W
