/- The law WholeText, walked: it answers true. -/
import Derived.Test.YteoonjnmghponaaZWb
namespace Go.Proofs.Yteoonjnmghponaa.W
open Go.RowKit Go.Proofs.Yteoonjnmghponaa.F Go.Proofs.YteoonjnmghponaaW.PrintWords Go.Proofs.YteoonjnmghponaaW.PrintLast Go.Proofs.YteoonjnmghponaaW.PrintMore
set_option linter.unusedVariables false
set_option linter.unusedSimpArgs false
def T35 : Bool × List (List Nat × List Nat) := (true, [([], []), ([0], [0]), ([], []), ([2], [2]), ([1, 3], [1, 3]), ([4], [4]), ([5], [5]), ([6, 5, 5], [5, 6]), ([7, 5], [5, 7]), ([5], [5]), ([9, 7, 5], [5, 9]), ([10, 5], [5, 10]), ([8, 11, 5], [5, 8, 11]), ([5, 12], [5, 12]), ([13, 10, 0, 1, 2, 3, 4, 5, 6, 7, 8, 9, 10, 11, 12, 13], [13])])
def B35 : List Nat := [0, 1, 0, 4, 15, 31, 63, 127, 255, 63, 575, 1599, 4095, 8191, 16383]
theorem tab35 : rtab .any (opsOf Try.f4 35) = T35 := by kernel_rfl
theorem bits35 : waitsOk T35.2 B35 = true := by kernel_rfl
set_option maxRecDepth 100000 in
set_option maxHeartbeats 4000000 in
theorem law_any {A : Option Addr} {c : Nat} {b : List Int} {w : World} (hr : Kd.C (Kd.int .u8) w A b.length b) (hc : b.length ≤ c) (hl : b.length ≤ 1048576) (hB : U.Byt b) (at_ : Int) :
  Calls Try.prog 4 #[.slice A b.length c, .int .i64 at_] w fun e w' => e = .returned (.bool true) ∧ Below w.heap.size w w' := by
 obtain ⟨l, kE, enc, hD, hll, hE⟩ := dec_some hB hl
 obtain ⟨k, M, ps, hBr, hMl, hPs, hPar⟩ := paragraphs_some l (by omega)
 have HR0 := Aside0.mk hr
 have HD := Aside0.mk hD
 have HE := Aside0.mk hE
 have HLL := Aside0.mk hll
 have HBr := Aside0.mk hBr
 have HMl := Aside0.mk hMl
 have HPs := Aside0.mk hPs
 have HPar := Aside0.mk hPar
 have HLB := Aside0.mk hl
 have HB := Aside0.mk (Below.refl w.heap.size w)
 clear hr hc hl hB hD hll hE hBr hMl hPs hPar
 go_enter Try.func4, Try.ntmps4
 go_upto_region 2 with (first | ((with_reducible refine gate_dst (N := 21) rfl ?_); refine Kd.R_lit (Kd.int .u8) _ 5 ?hg (N := 21) ?hd (xs := ([97, 10, 98] : List Int)) (inner := [.int .u8 97, .int .u8 10, .int .u8 98]) (ok := fun _ => True) (okp := fun _ => True) ?hr ?hp (fun _ hk => hk) trivial (Below.refl _ _) (Nat.le_refl _) (by simp) ?_; (case hd => rfl); (case hg => rfl); (case hr => first | (go_simp; done) | (go_simp; rfl)); (case hp => exact (Reps.one (show Kd.M (Kd.int .u8) _ _ _ 97 [.int .u8 97] from rfl) (Reps.one (show Kd.M (Kd.int .u8) _ _ _ 10 [.int .u8 10] from rfl) (Reps.one (show Kd.M (Kd.int .u8) _ _ _ 98 [.int .u8 98] from rfl) (Reps.none _ _))))); intro v1 w1 ho hb hg_ hnew_; obtain ⟨A1, c1, e1⟩ := Kd.R_slice ho; simp only [List.length_cons, List.length_nil, Nat.reduceAdd] at e1; subst e1; have HO1 := Aside0.mk ho; have HBn := Aside0.mk (below_step HB.out hb); clear HB; have HB := HBn; clear HBn; clear ho hb hg_ hnew_) | (go_at_call 10; ((with_reducible refine Calls.mono (small_dec HO1.out) ?_); rintro e w2 ⟨A2, c2, rfl, ho, hb⟩; have HO2 := Aside0.mk ho; have HBn := Aside0.mk (below_step HB.out hb); clear HB; have HB := HBn; clear HBn; clear ho hb HO1)))
 go_upto_region 4 with (go_at_call 11; ((with_reducible refine Calls.mono (small_par HO2.out) ?_); rintro e w3 ⟨A3, c3, rfl, hb⟩; have HBn := Aside0.mk (below_step HB.out hb); clear HB; have HB := HBn; clear HBn; clear hb HO2))
 go_upto_region 5 with (first | ((with_reducible refine gate_dst (N := 32) rfl ?_); refine Kd.R_lit (Kd.int .u8) _ 5 ?hg (N := 32) ?hd (xs := ([] : List Int)) (inner := []) (ok := fun _ => True) (okp := fun _ => True) ?hr ?hp (fun _ hk => hk) trivial (Below.refl _ _) (Nat.le_refl _) (by simp) ?_; (case hd => rfl); (case hg => rfl); (case hr => first | (go_simp; done) | (go_simp; rfl)); (case hp => exact (Reps.none _ _)); intro v4 w4 ho hb hg_ hnew_; have HO4 := Aside0.mk (Kd.R_lower ho (below_size HB.out)); have HBn := Aside0.mk (below_step HB.out hb); clear HB; have HB := HBn; clear HBn; clear ho hb hg_ hnew_) | ((with_reducible refine gate_builtin (b := .append) (xs := #[.tmp 32, .tmp 33]) rfl ?_); at_builtin; refine Kd.R_append_rows (Kd.int .u8) (w0 := w) w.heap.size rfl (.tmp 32) (.tmp 33) 23 5 (.int .u8 0) 1 rfl Try.underlying23 infoU8 rfl (by decide) (by omega) v4 ([] : List Int) b _ _ _ (fun _ => True) (fun _ => False) rfl rfl HO4.out (Kd.C_below HR0.out HB.out) (fun _ _ h => h) (fun _ h => h.elim) (fun _ _ => trivial) HB.out (below_size HB.out) (by have := HLB.out; have := HLL.out; simp; omega) ?_; intro v5 w5 ho hb hg hat; rw [List.nil_append] at ho; obtain ⟨A5, c5, e5⟩ := Kd.R_slice ho; subst e5; have HO5 := Aside0.mk ho; clear HB HO4; have HB := Aside0.mk hb; clear ho hb hg hat) | (go_at_call 10; ((with_reducible refine Calls.mono (utf_Decode.calls A5 c5 b l _ (Kd.R_reads' HO5.out).2.2 (Kd.R_reads' HO5.out).2.1 HD.out) ?_); rintro e w6 ⟨v6, rfl, ho, hb⟩; obtain ⟨A6, c6, e6⟩ := Kd.R_slice ho; subst e6; have HO6 := Aside0.mk ho; have HBn := Aside0.mk (below_step HB.out hb); clear HB; have HB := HBn; clear HBn; clear ho hb HO5)))
 have HC6 := Aside0.mk (Kd.R_reads' HO6.out).2.2
 have hc6 : l.length ≤ c6 := (Kd.R_reads' HO6.out).2.1
 clear HO6 HR0
 go_upto_region 6 with (first | ((with_reducible refine gate_dst (N := 36) rfl ?_); refine Kd.R_lit (Kd.int .i64) _ 3 ?hg (N := 36) ?hd (xs := ([] : List Int)) (inner := []) (ok := fun _ => True) (okp := fun _ => True) ?hr ?hp (fun _ hk => hk) trivial (Below.refl _ _) (Nat.le_refl _) (by simp) ?_; (case hd => rfl); (case hg => rfl); (case hr => first | (go_simp; done) | (go_simp; rfl)); (case hp => exact (Reps.none _ _)); intro v7a w7a ho hb hg_ hnew_; have HO7a := Aside0.mk ho; have HB7a := Aside0.mk hb; clear ho hb hg_ hnew_) | ((with_reducible refine gate_builtin (b := .append) (xs := #[.tmp 36, .tmp 37]) rfl ?_); at_builtin; refine Kd.R_append_rows (Kd.int .i64) (w0 := w6) w6.heap.size rfl (.tmp 36) (.tmp 37) 42 3 (.int .i64 0) 8 rfl Try.underlying42 infoInt rfl (by decide) (by omega) v7a ([] : List Int) l _ _ _ (fun _ => True) (fun _ => False) rfl rfl HO7a.out (Kd.C_below HC6.out HB7a.out) (fun _ _ h => h) (fun _ h => h.elim) (fun _ _ => trivial) HB7a.out (below_size HB7a.out) (by have := HLB.out; have := HLL.out; simp; omega) ?_; intro v7b w7b ho hb hg hat; rw [List.nil_append] at ho; obtain ⟨A7, c7, e7⟩ := Kd.R_slice ho; subst e7; have HO7 := Aside0.mk ho; clear HB7a HO7a; have HB7 := Aside0.mk hb; clear ho hb hg hat) | (go_at_call 12; ((with_reducible refine Calls.mono (P.breaks_Breaks.calls k A7 c7 l M _ (Kd.R_reads' HO7.out).2.2 (Kd.R_reads' HO7.out).2.1 HBr.out) ?_); rintro e w9 ⟨v9, rfl, ho, hb⟩; obtain ⟨A9, c9, e9⟩ := Kd.R_slice ho; rw [HMl.out] at e9; subst e9; have HO9 := Aside0.mk ho; have HB9 := Aside0.mk (below_step HB7.out hb); clear ho hb HO7 HB7)))
 have HC9 := Aside0.mk (show Kd.C (Kd.int .i64) w9 A9 l.length M by have := (Kd.R_reads' HO9.out).2.2; rw [HMl.out] at this; exact this)
 have HL9 := Aside0.mk (Kd.C_below HC6.out HB9.out)
 have HBw := Aside0.mk (below_step HB.out HB9.out)
 clear HC6 HO9 HB9 HB
 go_upto_region 9 with ((with_reducible refine gate_dst (N := 45) rfl ?_); refine Kd.R_lit (Kd.int .i64) _ 3 ?hg (N := 45) ?hd (xs := ([] : List Int)) (inner := []) (ok := fun _ => True) (okp := fun _ => True) ?hr ?hp (fun _ hk => hk) trivial (Below.refl _ _) (Nat.le_refl _) (by simp) ?_; (case hd => rfl); (case hg => rfl); (case hr => first | (go_simp; done) | (go_simp; rfl)); (case hp => exact (Reps.none _ _)); intro v10 w10 ho hb hg_ hnew_; have HO10 := Aside0.mk ho; have HB10 := Aside0.mk hb; clear ho hb hg_ hnew_)
 have HC10 := Aside0.mk (Kd.C_below HL9.out HB10.out)
 go_wp2_with (first | ((with_reducible refine gate_dst (N := 46) rfl ?_); refine Kd.R_lit (Kd.int .i64) _ 3 ?hg (N := 46) ?hd (xs := ([] : List Int)) (inner := []) (ok := fun _ => True) (okp := fun _ => True) ?hr ?hp (fun _ hk => hk) trivial (Below.refl _ _) (Nat.le_refl _) (by simp) ?_; (case hd => rfl); (case hg => rfl); (case hr => first | (go_simp; done) | (go_simp; rfl)); (case hp => exact (Reps.none _ _)); intro v11a w11a ho hb hg_ hnew_; have HO11a := Aside0.mk ho; have HB11a := Aside0.mk hb; clear ho hb hg_ hnew_) | ((with_reducible refine gate_builtin (b := .append) (xs := #[.tmp 46, .tmp 47]) rfl ?_); at_builtin; refine Kd.R_append_rows (Kd.int .i64) (w0 := w10) w10.heap.size rfl (.tmp 46) (.tmp 47) 42 3 (.int .i64 0) 8 rfl Try.underlying42 infoInt rfl (by decide) (by omega) v11a ([] : List Int) l _ _ _ (fun _ => True) (fun _ => False) rfl rfl HO11a.out (Kd.C_below HC10.out HB11a.out) (fun _ _ h => h) (fun _ h => h.elim) (fun _ _ => trivial) HB11a.out (below_size HB11a.out) (by have := HLB.out; have := HLL.out; simp; omega) ?_; intro v11b w11b ho hb hg hat; rw [List.nil_append] at ho; obtain ⟨A11, c11, e11⟩ := Kd.R_slice ho; subst e11; have HO11 := Aside0.mk ho; clear HB11a HO11a; have HB11 := Aside0.mk hb; clear ho hb hg hat) | (go_at_call 11; ((with_reducible refine Calls.mono (P.runs_Paragraphs.calls k A11 c11 l ps _ (Kd.R_reads' HO11.out).2.2 (Kd.R_reads' HO11.out).2.1 HPs.out) ?_); rintro e w13 ⟨v13, rfl, ho, hb⟩; obtain ⟨A13, c13, e13⟩ := Kd.R_slice ho; subst e13; have HO13 := Aside0.mk (Kd.R_newR ho (Kd.R_below HO10.out HB11.out)); have HB13 := Aside0.mk (below_step HB11.out hb); clear ho hb HO11 HB11)))
 have HBp := Aside0.mk (below_step HB10.out HB13.out)
 have HOp := Aside0.mk (Kd.R_below HO10.out HB13.out)
 clear HC10 HO10 HB10 HB13
 have hpsl : (ps.length : Int) ≤ 1048576 := by have := par_len M ps 0 _ HPar.out; have := HLL.out; have := HLB.out; omega
 have hll9 : (l.length : Int) ≤ 1048576 := by have := HLL.out; have := HLB.out; omega
 have HOu0 : Aside0 (Ou w9 w13 v10 w13 v10 []) := ⟨Ou.start HBp.out HOp.out⟩
 have HAt0 : Aside0 (At l M ps 0 []) := ⟨⟨0, by omega, by omega, rfl, HPar.out⟩⟩
 clear HOp HBp HPar HPs HBr HMl HD HLL HLB
 go_loopw [8, 51] (fun s8 s51 wq => ∃ (i : Int) (o : List Int), s51 = .int .i64 i ∧ Aside0 (0 ≤ i ∧ i ≤ ps.length) ∧ Aside0 (At l M ps i o) ∧ Aside0 (Ou w9 w13 v10 wq s8 o)) (fun _ s51 _ => (ps.length - intOf s51).toNat)
 case atStart => exact ⟨0, [], rfl, ⟨by omega⟩, HAt0, HOu0⟩
 case round =>
  clear HAt0 HOu0
  obtain ⟨i, o, rfl, HI, HAt, HOu⟩ := hrel
  have hi0 := HI.out.1
  have hi1 := HI.out.2
  by_cases hil : i < ps.length
  ·have hd : decide (i < ps.length) = true := decide_eq_true hil
   have HLT := Aside0.mk hil
   have hwr : IntKind.i64.wrap (i + 1) = i + 1 := IntWalk.i64_in _ (by omega)
   have i9 : i < 9223372036854775807 := by omega
   obtain ⟨a, q, hrd, hao, ha0, haq, hql, hmq, hnext⟩ := HAt.out.next hi0 hil
   have HN := Aside0.mk hnext
   obtain ⟨ad, ead, k0, k1⟩ := P.at_T47 (Kd.R_reads' (HOu.out.other HO13.out (fun k hk => hk.2))).2.2 i hi0 hil
   cases ead
   rw [hrd] at k0 k1
   obtain ⟨am, eam, _⟩ := Kd.at_int (Kd.C_below HC9.out HOu.out.be) q (by omega) hql
   cases eam
   have km : ∀ ob, (wr.alloc ob).cell? (am.add q.toNat) = some (.int .i64 2) := fun ob => by
    obtain ⟨am', e, kk⟩ := Kd.at_int (Kd.C_alloc (Kd.C_below HC9.out HOu.out.be) ob) q (by omega) hql
    cases e
    rw [hmq] at kk
    exact kk
   obtain ⟨al, eal, _⟩ := Kd.at_int HL9.out q (by omega) hql
   cases eal
   obtain ⟨Ao, co, eo⟩ := Kd.R_slice HOu.out.row
   subst eo
   have hao' : (o.length : Int) = a := hao.symm
   have HAO := Aside0.mk hao
   have d1 : decide (q + 1 ≤ a) = false := decide_eq_false (by omega)
   have d2 : decide ((l.length : Int) < q + 1) = false := decide_eq_false (by omega)
   have hq0 : 0 ≤ q := by omega
   have hwq : IntKind.i64.wrap (q + 1 - 1) = q := by rw [IntWalk.i64_in _ (by omega)]; omega
   clear hrd hao hnext hmq
   go_upto_region 14 with fail
   obtain ⟨pt, hpt⟩ : ∃ x, x = (l.take (q + 1).toNat).drop a.toNat := ⟨_, rfl⟩
   have HPl : Aside0 (pt.length = (q + 1).toNat - a.toNat) := ⟨by rw [hpt, List.length_drop, List.length_take]; omega⟩
   rw [← hpt] at HN
   obtain ⟨W1, hW1⟩ : ∃ x, x = wr.alloc (Obj.cells #[Value.int .i64 a, Value.int .i64 (q + 1)] 47) := ⟨_, rfl⟩
   have HBK : Aside0 (W1.heap[wr.heap.size]? = some (Obj.cells #[Value.int .i64 a, Value.int .i64 (q + 1)] 47 (0, 0))) := ⟨by rw [hW1]; exact blk_new _ _⟩
   have HO1 : Aside0 (Ou w9 w13 v10 W1 (Value.slice Ao o.length co) o) := ⟨by rw [hW1]; exact HOu.out.below (below_alloc (Below.refl _ _) _)⟩
   rw [← hW1]
   have HPT := Aside0.mk hpt
   clear hpt hW1 km k0 k1 HOu d1 d2 hwq
   go_upto_region 15 with (first | ((with_reducible refine gate_dst (N := 83) rfl ?_); refine Kd.R_lit (Kd.int .i64) _ 3 ?hg (N := 83) ?hd (xs := ([] : List Int)) (inner := []) (ok := fun _ => True) (okp := fun _ => True) ?hr ?hp (fun _ hk => hk) trivial (Below.refl _ _) (Nat.le_refl _) (by simp) ?_; (case hd => rfl); (case hg => rfl); (case hr => first | (go_simp; done) | (go_simp; rfl)); (case hp => exact (Reps.none _ _)); intro v83 w83 ho hb hg_ hnew_; have hbk := blk_below HBK.out hb; have b0 := (blk_cell hbk 0).trans rfl; have b1 := (blk_cell hbk 1).trans rfl; have HO83 := Aside0.mk ho; have HB83 := Aside0.mk hb; have HRun := Aside0.mk (run_C (a := a) (b := q + 1) (Kd.C_below HL9.out (below_step HO1.out.be hb)) ha0 (by omega) (by omega) hc6); rw [← HPT.out] at HRun; clear ho hb hg_ hnew_ hbk) | ((with_reducible refine gate_builtin (b := .append) (xs := #[.tmp 83, .tmp 89]) rfl ?_); at_builtin; refine Kd.R_append_rows (Kd.int .i64) (Rr := (Kd.int .i64).K w83) (w0 := W1) W1.heap.size rfl (.tmp 83) (.tmp 89) 42 3 (.int .i64 0) 8 rfl Try.underlying42 infoInt rfl (by decide) (by omega) v83 ([] : List Int) pt (some (al.add a.toNat)) ((q + 1).toNat - a.toNat) (c6 - a.toNat) (fun _ => True) (fun _ => False) rfl rfl HO83.out HRun.out (fun _ _ h => h) (fun _ h => h.elim) (fun _ _ => trivial) HB83.out HB83.out.size (by have := HPl.out; simp; omega) ?_; intro v90 w90 ho hb hg hat; rw [List.nil_append] at ho; obtain ⟨Ap, cp, ep⟩ := Kd.R_slice ho; subst ep; have HP90 := Aside0.mk ho; have HO90 := Aside0.mk (HO1.out.below hb); clear ho hb hg hat HO83 HB83 HRun b0 b1))
   have hp0 : 0 < pt.length := by have := HPl.out; omega
   have hpl : (pt.length : Int) ≤ 1048576 := by have := HPl.out; omega
   have HPt := Aside0.mk (HO1.out.apart (Nat.le_refl _) HP90.out)
   have HPC := Aside0.mk (Kd.R_reads' HP90.out).2.2
   have hpc := (Kd.R_reads' HP90.out).2.1
   clear HO1 HBK HP90 HPT HAt
   go_wp2_with fail
   go_at_call 13
   with_reducible refine Calls.mono (split_any HPC.out hpc hp0 at_) ?_
   rintro e w15 ⟨hb, ⟨ha, rfl⟩ | ⟨ha, hn, rfl⟩ | ⟨ha, hn, v, rs, rfl, hR, hcv⟩⟩
   ·have HO15 := Aside0.mk (HO90.out.below hb)
    have HPC15 := Aside0.mk (Kd.C_below HPC.out hb)
    clear hb HO90 HPC HPt
    go_wp2_with fail
    go_at_call 14
    with_reducible refine Calls.mono (levels_any HPC15.out hpc hp0 at_) ?_
    rintro e w16 ⟨hb, ⟨ha', rfl⟩ | ⟨ha', _⟩ | ⟨ha', _⟩⟩
    ·have HO16 := Aside0.mk (HO15.out.below hb)
     clear hb HO15 HPC15 ha'
     rcases ha with ha | ha
     ·have d1 : decide (at_ < -1) = true := decide_eq_true ha
      clear ha
      go_wp2
      go_ret
      exact ⟨rfl, below_step HBw.out HO16.out.be⟩
     ·have d1 : decide (at_ < -1) = false := decide_eq_false (by omega)
      have d2 : decide (1 < at_) = true := decide_eq_true ha
      clear ha
      go_wp2
      go_ret
      exact ⟨rfl, below_step HBw.out HO16.out.be⟩
    ·exact absurd ha (by omega)
    ·exact absurd ha (by omega)
   ·have HO15 := Aside0.mk (HO90.out.below hb)
    have HPC15 := Aside0.mk (Kd.C_below HPC.out hb)
    clear hb HO90 HPC HPt
    go_wp2_with fail
    go_at_call 14
    with_reducible refine Calls.mono (levels_any HPC15.out hpc hp0 at_) ?_
    rintro e w16 ⟨hb, ⟨ha', _⟩ | ⟨ha', hn', rfl⟩ | ⟨_, hn', _⟩⟩
    ·exact absurd ha (by omega)
    ·have HO16 := Aside0.mk (HO15.out.below hb)
     clear hb HO15 HPC15 ha'
     have d1 : decide (at_ < -1) = false := decide_eq_false (by omega)
     have d2 : decide (1 < at_) = false := decide_eq_false (by omega)
     have d3 : decide ((16384 : Int) < pt.length) = true := decide_eq_true (by omega)
     clear ha
     go_wp2
     go_ret
     exact ⟨rfl, below_step HBw.out HO16.out.be⟩
    ·exact absurd hn (by omega)
   ·have HO15 := Aside0.mk (HO90.out.below hb)
    have HPC15 := Aside0.mk (Kd.C_below HPC.out hb)
    have HPt15 := Aside0.mk (Kd.R_below HPt.out hb)
    have HRs15 := Aside0.mk (HO90.out.apart (Nat.le_refl _) hR)
    obtain ⟨Ar, cr, rfl⟩ := Kd.R_slice hR
    have HCv := Aside0.mk hcv
    clear hb HO90 HPC HPt hR hcv
    go_wp2_with fail
    go_at_call 14
    with_reducible refine Calls.mono (levels_any HPC15.out hpc hp0 at_) ?_
    rintro e w16 ⟨hb, ⟨ha', _⟩ | ⟨ha', hn', _⟩ | ⟨_, hn', vl, ys, rfl, hL, hyl⟩⟩
    ·exact absurd ha (by omega)
    ·exact absurd hn (by omega)
    ·have HO16 := Aside0.mk (HO15.out.below hb)
     have HPt16 := Aside0.mk (Kd.R_below HPt15.out hb)
     have HRs16 := Aside0.mk (Kd.R_below HRs15.out hb)
     have HLv16 := Aside0.mk (HO15.out.apart (Nat.le_refl _) hL)
     obtain ⟨Al, cl, rfl⟩ := Kd.R_slice hL
     have HYL := Aside0.mk hyl
     have hrl : (rs.length : Int) ≤ 1048576 := by have := cov_len rs 0 _ HCv.out; omega
     have hn9 : (pt.length : Int) ≤ 16384 := by omega
     clear hb HO15 HPC15 HPt15 HRs15 hL hyl ha hn hn'
     have HCA : Aside0 (CovAt pt o rs 0 o) := ⟨⟨0, by omega, by omega, by simp, HCv.out⟩⟩
     have HOu2 := Aside0.mk HO16.out.rebase
     clear HCv
     go_wp2_with fail
     go_loopw [8, 128] (fun s8 s128 wq => ∃ (j : Int) (o2 : List Int), s128 = .int .i64 j ∧ Aside0 (0 ≤ j ∧ j ≤ rs.length) ∧ Aside0 (CovAt pt o rs j o2) ∧ Aside0 (Ou w9 w16 (.slice Ao o.length co) wq s8 o2)) (fun _ s128 _ => (rs.length - intOf s128).toNat)
     case atStart => exact ⟨0, o, rfl, ⟨by omega⟩, HCA, HOu2⟩
     case round =>
      clear HCA HOu2
      obtain ⟨j, o2, rfl, HJ, HCt, HOq⟩ := hrel
      have hj0 := HJ.out.1
      have hj1 := HJ.out.2
      by_cases hjl : j < rs.length
      ·have hdj : decide (j < rs.length) = true := decide_eq_true hjl
       have HJL := Aside0.mk hjl
       have hwj : IntKind.i64.wrap (j + 1) = j + 1 := IntWalk.i64_in _ (by omega)
       have j9 : j < 9223372036854775807 := by omega
       obtain ⟨r, f, t, er, ef, et, hf0, hft, htl, hol, hnx⟩ := HCt.out.next hj0 hjl
       have HNx := Aside0.mk hnx
       have HOl := Aside0.mk hol
       have HRq := HOq.out.other HRs16.out (fun k hk => hk.2)
       obtain ⟨g, cr', e1, hgN, _, _⟩ := Kd.R_form HRq (by omega)
       injection e1 with e1 e2 e3
       subst e1
       subst e3
       obtain ⟨cs, hl, hM, h1, h2⟩ := Kd.R_elem HRq zRu j hj0 hjl
       have ecs := kRu_openM hM
       rw [er, ef, et] at ecs
       subst ecs
       have k0 : wr.cell? ⟨g, j.toNat * 4, none⟩ = some (.int .i64 f) := h1 0 _ rfl
       have k1 : wr.cell? ⟨g, j.toNat * 4 + 1, none⟩ = some (.int .i64 t) := h1 1 _ rfl
       have k2 : wr.cell? ⟨g, j.toNat * 4 + 2, none⟩ = some (.int .i64 r.f2) := h1 2 _ rfl
       have k3 : wr.cell? ⟨g, j.toNat * 4 + 3, none⟩ = some (.int .i64 r.f3) := h1 3 _ rfl
       generalize r.f2 = lv at *
       generalize r.f3 = sc at *
       have HPtq := Aside0.mk (HOq.out.other HPt16.out (fun k hk => hk.2))
       obtain ⟨ap, eap, _⟩ := Kd.at_int (Kd.R_reads' HPt16.out).2.2 0 (by omega) (by omega)
       subst eap
       obtain ⟨A2, c2, e4⟩ := Kd.R_slice HOq.out.row
       subst e4
       have d1 : decide (f < 0) = false := decide_eq_false (by omega)
       have d2 : decide ((pt.length : Int) < t) = false := decide_eq_false (by omega)
       have d3 : decide (t < f) = false := decide_eq_false (by omega)
       have ht0 : 0 ≤ t := by omega
       clear HRq h1 h2 hM hl er ef et hol hnx e2
       go_upto_region 24 with fail
       obtain ⟨W3, hW3⟩ : ∃ x, x = wr.alloc (Obj.cells #[Value.int .i64 f, Value.int .i64 t, Value.int .i64 lv, Value.int .i64 sc] 54) := ⟨_, rfl⟩
       have hbk : W3.heap[wr.heap.size]? = some (Obj.cells #[Value.int .i64 f, Value.int .i64 t, Value.int .i64 lv, Value.int .i64 sc] 54 (0, 0)) := by rw [hW3]; exact blk_new _ _
       have b0 : W3.cell? ⟨wr.heap.size, 0, none⟩ = some (.int .i64 f) := (blk_cell hbk 0).trans rfl
       have b1 : W3.cell? ⟨wr.heap.size, 1, none⟩ = some (.int .i64 t) := (blk_cell hbk 1).trans rfl
       have HO3 : Aside0 (Ou w9 w16 (.slice Ao o.length co) W3 (.slice A2 o2.length c2) o2) := ⟨by rw [hW3]; exact HOq.out.below (below_alloc (Below.refl _ _) _)⟩
       have HRun := Aside0.mk (run_C (a := f) (b := t) (Kd.R_reads' (HO3.out.other HPt16.out (fun k hk => hk.2))).2.2 hf0 hft htl hpc)
       rw [← hW3]
       clear hW3 hbk k0 k1 k2 k3 HOq HPtq d1 d2 d3 HCt
       go_wp2_with ((with_reducible refine gate_builtin (b := .append) (xs := #[.tmp 149, .tmp 155]) rfl ?_); at_builtin; refine Kd.R_append_rows (Kd.int .i64) (Rr := (Kd.int .i64).K W3) (w0 := w9) w9.heap.size rfl (.tmp 149) (.tmp 155) 42 3 (.int .i64 0) 8 rfl Try.underlying42 infoInt rfl (by decide) (by omega) (.slice A2 o2.length c2) o2 ((pt.take t.toNat).drop f.toNat) (some (ap.add f.toNat)) (t.toNat - f.toNat) (cp - f.toNat) (fun k => some k = (Value.slice Ao o.length co).ownBlock ∨ w16.heap.size ≤ k) (fun _ => False) rfl rfl ?aO ?aR (fun _ _ h => h) (fun _ h => h.elim) ?aF ?aB ?aS ?aL ?_; (case aO => exact HO3.out.row); (case aR => exact HRun.out); (case aF => exact fun k hk => .inr (Nat.le_trans HO3.out.sz hk)); (case aB => exact HO3.out.be); (case aS => exact HO3.out.be.size); (case aL => have := HOl.out; omega); intro v156 w24 ho hb hg hat; obtain ⟨A9, c9', e9⟩ := Kd.R_slice ho; subst e9; have HO9 := Aside0.mk (HO3.out.push ho hb hg); clear ho hb hg hat)
       have hlen : (o2 ++ (pt.take t.toNat).drop f.toNat).length = o2.length + (t.toNat - f.toNat) := by
        rw [List.length_append, List.length_drop, List.length_take]
        omega
       rw [hlen] at HO9
       exact ⟨⟨j + 1, _, rfl, ⟨by have := HJL.out; omega⟩, HNx, HO9⟩, by have := HJL.out; simp [intOf]; omega⟩
      ·have hdj : decide (j < rs.length) = false := decide_eq_false hjl
       have HOf := Aside0.mk (HO16.out.trans HOq.out)
       have HLq := Aside0.mk (HOq.out.other HLv16.out (fun k hk => hk.2))
       have hod := HCt.out.done hjl
       subst hod
       have HLC := Aside0.mk (Kd.R_reads' HLq.out).2.2
       have hlc : ys.length ≤ cl := (Kd.R_reads' HLq.out).2.1
       have hyn : ys.length ≤ 16384 := by have := HYL.out; omega
       obtain ⟨wA, hwA⟩ : ∃ x, x = wr := ⟨_, rfl⟩
       subst hwA
       obtain ⟨A2, c2, e4⟩ := Kd.R_slice HOq.out.row
       clear HPt16 HRs16 HLv16 HLq HO16 HCt HOq hjl e4
       go_wp2_with (first | ((with_reducible refine gate_dst (N := 160) rfl ?_); refine Kd.R_make Kd.bool _ 4 rfl (N := 160) rfl 55 _ _ rfl (pt.length : Int) rfl rfl Try.underlying55 (.bool false) 1 P.info4 rfl (by decide) (by omega) false (ok := fun _ => True) (okp := fun _ => True) rfl (fun _ hk => hk) trivial (by omega) (by omega) (Below.refl _ _) (Nat.le_refl _) ?_; intro v160 w26 ho hb hg hat; rw [Int.toNat_natCast] at ho; obtain ⟨gs, cS, e5, hgs, hgl, _⟩ := Kd.R_form ho (by rw [List.length_replicate]; exact hp0); rw [List.length_replicate] at e5; subst e5; have HSh26 := Aside0.mk (Kd.R_mono (Kd.R_tight rfl ho) (fun k hk => (show k = gs by simpa [Value.ownBlock] using hk))); have HGs := Aside0.mk hgs; have HGl := Aside0.mk hgl; have HB26 := Aside0.mk hb; have HLC26 := Aside0.mk (Kd.C_below HLC.out hb); clear ho hb hg hat hgs hgl HLC) | (go_at_call 15; ((with_reducible refine Calls.mono (order_any HLC26.out hyn) ?_); rintro e w27 ⟨v162, od, rfl, hR, hb, hperm⟩; obtain ⟨Aod, cod, e6⟩ := Kd.R_slice hR; subst e6; have HOd27 := Aside0.mk (Kd.R_mono (Kd.R_bound hR) (fun k hk => (show k ≠ gs by have h1 := hk.2.1; have h2 := HGl.out; omega))); have HSh27 := Aside0.mk (Kd.R_below HSh26.out hb); have HB27 := Aside0.mk (below_then HB26.out HB26.out.size hb); have HPm := Aside0.mk (show od.Perm (iota pt.length) by rw [← HYL.out]; exact hperm); clear hR hb hperm HLC26 HSh26 HB26)))
       have hodl : od.length = pt.length := perm_len HPm.out
       have hod9 : (od.length : Int) ≤ 16384 := by omega
       clear hodl
       go_loopw [164] (fun s164 wq => ∃ (m : Int) (sh : List Bool), s164 = .int .i64 m ∧ Aside0 (0 ≤ m ∧ m ≤ od.length) ∧ Aside0 (Seen pt.length od sh m) ∧ Aside0 (Kd.R Kd.bool 4 wq wA.heap.size (fun k => k = gs) (.slice (some ⟨gs, 0, none⟩) pt.length cS) sh) ∧ Aside0 (Kd.R (Kd.int .i64) 3 wq w26.heap.size (fun k => k ≠ gs) (.slice Aod od.length cod) od) ∧ Aside0 (Below wA.heap.size wA wq)) (fun s164 _ => (od.length - intOf s164).toNat)
       case atStart => exact ⟨0, _, rfl, ⟨by omega⟩, ⟨Seen.start⟩, HSh27, HOd27, HB27⟩
       case round =>
        clear HSh27 HOd27 HB27
        obtain ⟨m, sh, rfl, HM, HS, HSh, HOd, HBq⟩ := hrel
        have hm0 := HM.out.1
        have hm1 := HM.out.2
        by_cases hml : m < od.length
        ·have hdm : decide (m < od.length) = true := decide_eq_true hml
         have HML := Aside0.mk hml
         have hwm : IntKind.i64.wrap (m + 1) = m + 1 := IntWalk.i64_in _ (by omega)
         have m9 : m < 9223372036854775807 := by omega
         obtain ⟨hz0, hz1⟩ := perm_in HPm.out hm0 hml
         have hfr := HS.out.2 m (Int.le_refl _) hml
         obtain ⟨x1, ex1, kx⟩ := Kd.at_int (Kd.R_reads' HOd.out).2.2 m hm0 hml
         cases ex1
         have HSN := Aside0.mk (HS.out.next HPm.out hm0 hml)
         have hsl := HS.out.1
         have hsh := HSh.out
         rw [← hsl] at hsh
         have hcc := Kd.R_cell false hsh (rd od m) hz0 (by rw [hsl]; exact hz1)
         rw [hfr] at hcc
         have HP1 := Aside0.mk (Kd.R_put hsh (rd od m) true).1
         rw [hsl] at HP1
         have HOn := Aside0.mk (Kd.R_far HOd.out (p := ⟨gs, (rd od m).toNat, none⟩) (fun k hk => hk) (.bool true))
         have HBs := Aside0.mk (HBq.out.setCell (p := ⟨gs, (rd od m).toNat, none⟩) HGs.out (.bool true))
         clear hfr hsl hsh
         generalize rd od m = z at *
         obtain ⟨z1, z2⟩ := hcc
         have dz1 : decide (z < 0) = false := decide_eq_false (by omega)
         have dz2 : decide ((pt.length : Int) ≤ z) = false := decide_eq_false (by omega)
         go_wp2
         exact ⟨⟨m + 1, _, rfl, ⟨by have := HML.out; omega⟩, HSN, HP1, HOn, HBs⟩, by have := HML.out; simp [intOf]; omega⟩
        ·have hdm : decide (m < od.length) = false := decide_eq_false hml
         have HOe := Aside0.mk (HOf.out.below HBq.out)
         clear HOf HBq HSh HOd HS
         go_wp2
         exact ⟨⟨i + 1, _, rfl, ⟨by have := HLT.out; omega⟩, HN, HOe⟩, by have := HLT.out; simp [intOf]; omega⟩
  ·have hd : decide (i < ps.length) = false := decide_eq_false hil
   rw [HAt.out.done hil] at HOu
   obtain ⟨Ao, co, eo⟩ := Kd.R_slice HOu.out.row
   subst eo
   have HC8 := Aside0.mk (Kd.R_reads' HOu.out.row).2.2
   have hco : l.length ≤ co := (Kd.R_reads' HOu.out.row).2.1
   have HC6 := Aside0.mk (Kd.C_below HL9.out HOu.out.be)
   have HBq := Aside0.mk HOu.out.be
   clear HAt HOu HO13 HC9 HL9 HI hil hi0 hi1 hpsl
   go_upto_region 35 with fail
   have n0 := Aside0.mk (Kd.C_drew HC8.out)
   have n1 := Aside0.mk (Kd.C_drew HC6.out)
   have n2 := Aside0.mk (below_drew1 HBq.out)
   clear HC8 HC6 HBq
   have HC8 := n0
   have HC6 := n1
   have HBq := n2
   clear n0 n1 n2
   refine start_ (n := 15) (S := fun w' => True) (ds := []) #[false, false, false, false, false, false, false, false, false, false, false, false, false, false, false] (by kernel_rfl) rfl rfl trivial (fun hHeld => ?_); refine with_tabW tab35 bits35 (fun HT_ HW_ => ?_)
   generalize wr.drew = w40 at HC8 HC6 HBq hHeld ⊢
   refine pure_ (i := 0) (N := some 187) (v := ?_) (a' := ?_) #[true, false, false, false, false, false, false, false, false, false, false, false, false, false, false] rfl rfl (any_of HT_.out (by kernel_rfl)) (fun _ _ _ h => h) (Or.inl ⟨by rfl, ?_⟩) ?_ ?_
   rotate_left
   ·intro w'
    go_simp
    with_reducible rfl
   rotate_left
   ·simp only [Act.put, List.setIfInBounds_toArray, List.set_cons_zero, List.set_cons_succ, i64_w, i32_w]
    rfl
   refine pure_ (i := 1) (N := some 188) (v := ?_) (a' := ?_) #[true, true, false, false, false, false, false, false, false, false, false, false, false, false, false] rfl rfl (any_of HT_.out (by kernel_rfl)) (fun _ _ _ h => h) (Or.inl ⟨by rfl, ?_⟩) ?_ ?_
   rotate_left
   ·intro w'
    go_simp
    with_reducible rfl
   rotate_left
   ·simp only [Act.put, List.setIfInBounds_toArray, List.set_cons_zero, List.set_cons_succ, i64_w, i32_w]
    rfl
   refine pure_ (i := 2) (N := some 189) (v := ?_) (a' := ?_) #[true, true, true, false, false, false, false, false, false, false, false, false, false, false, false] rfl rfl (any_of HT_.out (by kernel_rfl)) (fun _ _ _ h => h) (Or.inl ⟨by rfl, ?_⟩) ?_ ?_
   rotate_left
   ·intro w'
    go_simp
    with_reducible rfl
   rotate_left
   ·simp only [Act.put, List.setIfInBounds_toArray, List.set_cons_zero, List.set_cons_succ, i64_w, i32_w]
    rfl
   refine pure_ (i := 3) (N := some 190) (v := ?_) (a' := ?_) #[true, true, true, true, false, false, false, false, false, false, false, false, false, false, false] rfl rfl (any_of HT_.out (by kernel_rfl)) (fun _ _ _ h => h) (Or.inl ⟨by rfl, ?_⟩) ?_ ?_
   rotate_left
   ·intro w'
    go_simp
    with_reducible rfl
   rotate_left
   ·simp only [Act.put, List.setIfInBounds_toArray, List.set_cons_zero, List.set_cons_succ, i64_w, i32_w]
    rfl
   refine pure_ (i := 4) (N := some 191) (v := ?_) (a' := ?_) #[true, true, true, true, true, false, false, false, false, false, false, false, false, false, false] rfl rfl (any_of HT_.out (by kernel_rfl)) (fun _ _ _ h => h) (Or.inl ⟨by rfl, ?_⟩) ?_ ?_
   rotate_left
   ·intro w'
    go_simp
    with_reducible rfl
   rotate_left
   ·simp only [Act.put, List.setIfInBounds_toArray, List.set_cons_zero, List.set_cons_succ, i64_w, i32_w]
    rfl
   refine pure_ (i := 5) (N := some 192) (v := ?_) (a' := ?_) #[true, true, true, true, true, true, false, false, false, false, false, false, false, false, false] rfl rfl (any_of HT_.out (by kernel_rfl)) (fun _ _ _ h => h) (Or.inl ⟨by rfl, ?_⟩) ?_ ?_
   rotate_left
   ·intro w'
    go_simp
    with_reducible rfl
   rotate_left
   ·simp only [Act.put, List.setIfInBounds_toArray, List.set_cons_zero, List.set_cons_succ, i64_w, i32_w]
    rfl
   refine pure_ (i := 6) (N := some 193) (v := ?_) (a' := ?_) #[true, true, true, true, true, true, true, false, false, false, false, false, false, false, false] rfl rfl (any_of HT_.out (by kernel_rfl)) (fun _ _ _ h => h) (Or.inl ⟨by rfl, ?_⟩) ?_ ?_
   rotate_left
   ·intro w'
    go_simp
    with_reducible rfl
   rotate_left
   ·simp only [Act.put, List.setIfInBounds_toArray, List.set_cons_zero, List.set_cons_succ, i64_w, i32_w]
    rfl
   refine pure_ (i := 9) (N := some 196) (v := ?_) (a' := ?_) #[true, true, true, true, true, true, true, false, false, true, false, false, false, false, false] rfl rfl (any_of HT_.out (by kernel_rfl)) (fun _ _ _ h => h) (Or.inl ⟨by rfl, ?_⟩) ?_ ?_
   rotate_left
   ·intro w'
    go_simp
    with_reducible rfl
   rotate_left
   ·simp only [Act.put, List.setIfInBounds_toArray, List.set_cons_zero, List.set_cons_succ, i64_w, i32_w]
    rfl
   refine one_ (i := 7) (N := some 194) #[true, true, true, true, true, true, true, true, false, true, false, false, false, false, false] rfl rfl (one_of HT_.out (by kernel_rfl)) (by decide) (fun K hK => ?_)
   refine goes_ Try.func16 (by kernel_rfl) rfl #[.slice Ao l.length co] (by rfl) rfl rfl (by (try simp only [List.map_toArray, List.map_cons, List.map_nil]); first | done | rfl) ?_
   with_reducible refine Calls.mono (P.utf_Encode.calls kE Ao co l enc _ HC8.out hco HE.out) ?_
   rintro e wn0 ⟨v0, rfl, ho, hb⟩
   refine ⟨_, rfl, ?_⟩
   have n0 := Aside0.mk (Kd.C_below HC8.out hb)
   have n1 := Aside0.mk (Kd.C_below HC6.out hb)
   have n2 := Aside0.mk (below_step HBq.out hb)
   have HR0 := Aside0.mk ho
   clear HC8 HC6 HBq ho hb
   have HC8 := n0
   have HC6 := n1
   have HBq := n2
   clear n0 n1 n2
   refine hK.out _ _ trivial (fun hHeld => ?_)
   clear hK K
   refine norm_ (a' := ?_) ?_ ?_
   rotate_left
   ·show Act.put _ (some 194) _ = _
    simp only [Act.put, List.setIfInBounds_toArray, List.set_cons_zero, List.set_cons_succ, i64_w, i32_w]
    rfl
   refine two_ (i := 8) (j := 10) (Ni := some 195) (Nj := some 197) #[true, true, true, true, true, true, true, true, true, true, false, false, false, false, false] #[true, true, true, true, true, true, true, true, false, true, true, false, false, false, false] rfl rfl rfl rfl (two_of HT_.out (by kernel_rfl)) (by decide) (by decide) (fun K hK => ?_) (fun K hK => ?_)
   ·skip
    have hcv := own_string (P := Try.prog) Try.underlying23 Try.underlying5 Try.underlying9 (Kd.own_of_R HR0.out)
    refine value_ (w1 := ?_) (v := ?_) (by rfl) rfl ?_ ?_
    rotate_left 2
    ·go_simp
     constructor
     ·rfl
     ·rfl
    clear hcv
    refine hK.out _ _ trivial (fun hHeld => ?_)
    clear hK K
    refine norm_ (a' := ?_) ?_ ?_
    rotate_left
    ·show Act.put _ (some 195) _ = _
     simp only [Act.put, List.setIfInBounds_toArray, List.set_cons_zero, List.set_cons_succ, i64_w, i32_w]
     rfl
    refine one_ (i := 10) (N := some 197) #[true, true, true, true, true, true, true, true, true, true, true, false, false, false, false] rfl rfl (one_of HT_.out (by kernel_rfl)) (by decide) (fun K hK => ?_)
    refine goes_ Try.func16 (by kernel_rfl) rfl #[.slice A6 l.length c6] (by rfl) rfl rfl (by (try simp only [List.map_toArray, List.map_cons, List.map_nil]); first | done | rfl) ?_
    with_reducible refine Calls.mono (P.utf_Encode.calls kE A6 c6 l enc _ HC6.out hc6 HE.out) ?_
    rintro e wn1 ⟨v1, rfl, ho, hb⟩
    refine ⟨_, rfl, ?_⟩
    have n0 := Aside0.mk (Kd.C_below HC8.out hb)
    have n1 := Aside0.mk (Kd.C_below HC6.out hb)
    have n2 := Aside0.mk (below_step HBq.out hb)
    have n3 := Aside0.mk (Kd.R_below HR0.out hb)
    clear HR0
    have HR0 := n3
    clear n3
    have HR1 := Aside0.mk ho
    clear HC8 HC6 HBq ho hb
    have HC8 := n0
    have HC6 := n1
    have HBq := n2
    clear n0 n1 n2
    refine hK.out _ _ trivial (fun hHeld => ?_)
    clear hK K
    refine norm_ (a' := ?_) ?_ ?_
    rotate_left
    ·show Act.put _ (some 197) _ = _
     simp only [Act.put, List.setIfInBounds_toArray, List.set_cons_zero, List.set_cons_succ, i64_w, i32_w]
     rfl
    refine one_ (i := 11) (N := some 198) #[true, true, true, true, true, true, true, true, true, true, true, true, false, false, false] rfl rfl (one_of HT_.out (by kernel_rfl)) (by decide) (fun K hK => ?_)
    have hcv := own_string (P := Try.prog) Try.underlying23 Try.underlying5 Try.underlying9 (Kd.own_of_R HR1.out)
    refine value_ (w1 := ?_) (v := ?_) (by rfl) rfl ?_ ?_
    rotate_left 2
    ·go_simp
     constructor
     ·rfl
     ·rfl
    clear hcv
    refine hK.out _ _ trivial (fun hHeld => ?_)
    clear hK K
    refine norm_ (a' := ?_) ?_ ?_
    rotate_left
    ·show Act.put _ (some 198) _ = _
     simp only [Act.put, List.setIfInBounds_toArray, List.set_cons_zero, List.set_cons_succ, i64_w, i32_w]
     rfl
    refine pure_ (i := 12) (N := some 199) (v := ?_) (a' := ?_) #[true, true, true, true, true, true, true, true, true, true, true, true, true, false, false] rfl rfl (any_of HT_.out (by kernel_rfl)) (fun _ _ _ h => h) (Or.inl ⟨by rfl, ?_⟩) ?_ ?_
    rotate_left
    ·intro w'
     go_simp
     with_reducible rfl
    rotate_left
    ·simp only [Act.put, List.setIfInBounds_toArray, List.set_cons_zero, List.set_cons_succ, i64_w, i32_w]
     rfl
    refine pure_ (i := 13) (N := some 200) (v := ?_) (a' := ?_) #[true, true, true, true, true, true, true, true, true, true, true, true, true, true, false] rfl rfl (any_of HT_.out (by kernel_rfl)) (fun _ _ _ h => h) (Or.inl ⟨by rfl, ?_⟩) ?_ ?_
    rotate_left
    ·intro w'
     go_simp
     with_reducible rfl
    rotate_left
    ·simp only [Act.put, List.setIfInBounds_toArray, List.set_cons_zero, List.set_cons_succ, i64_w, i32_w]
     rfl
    refine pure_ (i := 14) (N := some 4) (v := ?_) (a' := ?_) #[true, true, true, true, true, true, true, true, true, true, true, true, true, true, true] rfl rfl (any_of HT_.out (by kernel_rfl)) (fun _ _ _ h => h) (Or.inl ⟨by rfl, ?_⟩) ?_ ?_
    rotate_left
    ·intro w'
     go_simp
     with_reducible rfl
    rotate_left
    ·simp only [Act.put, List.setIfInBounds_toArray, List.set_cons_zero, List.set_cons_succ, i64_w, i32_w]
     rfl
    refine done_ (done_of HT_.out (by kernel_rfl)) ?_
    go_wp2
    go_ret
    exact ⟨rfl, below_step HBw.out HBq.out⟩
   ·skip
    refine goes_ Try.func16 (by kernel_rfl) rfl #[.slice A6 l.length c6] (by rfl) rfl rfl (by (try simp only [List.map_toArray, List.map_cons, List.map_nil]); first | done | rfl) ?_
    with_reducible refine Calls.mono (P.utf_Encode.calls kE A6 c6 l enc _ HC6.out hc6 HE.out) ?_
    rintro e wn1 ⟨v1, rfl, ho, hb⟩
    refine ⟨_, rfl, ?_⟩
    have n0 := Aside0.mk (Kd.C_below HC8.out hb)
    have n1 := Aside0.mk (Kd.C_below HC6.out hb)
    have n2 := Aside0.mk (below_step HBq.out hb)
    have n3 := Aside0.mk (Kd.R_below HR0.out hb)
    clear HR0
    have HR0 := n3
    clear n3
    have HR1 := Aside0.mk ho
    clear HC8 HC6 HBq ho hb
    have HC8 := n0
    have HC6 := n1
    have HBq := n2
    clear n0 n1 n2
    refine hK.out _ _ trivial (fun hHeld => ?_)
    clear hK K
    refine norm_ (a' := ?_) ?_ ?_
    rotate_left
    ·show Act.put _ (some 197) _ = _
     simp only [Act.put, List.setIfInBounds_toArray, List.set_cons_zero, List.set_cons_succ, i64_w, i32_w]
     rfl
    refine two_ (i := 8) (j := 11) (Ni := some 195) (Nj := some 198) #[true, true, true, true, true, true, true, true, true, true, true, false, false, false, false] #[true, true, true, true, true, true, true, true, false, true, true, true, false, false, false] rfl rfl rfl rfl (two_of HT_.out (by kernel_rfl)) (by decide) (by decide) (fun K hK => ?_) (fun K hK => ?_)
    ·skip
     have hcv := own_string (P := Try.prog) Try.underlying23 Try.underlying5 Try.underlying9 (Kd.own_of_R HR0.out)
     refine value_ (w1 := ?_) (v := ?_) (by rfl) rfl ?_ ?_
     rotate_left 2
     ·go_simp
      constructor
      ·rfl
      ·rfl
     clear hcv
     refine hK.out _ _ trivial (fun hHeld => ?_)
     clear hK K
     refine norm_ (a' := ?_) ?_ ?_
     rotate_left
     ·show Act.put _ (some 195) _ = _
      simp only [Act.put, List.setIfInBounds_toArray, List.set_cons_zero, List.set_cons_succ, i64_w, i32_w]
      rfl
     refine one_ (i := 11) (N := some 198) #[true, true, true, true, true, true, true, true, true, true, true, true, false, false, false] rfl rfl (one_of HT_.out (by kernel_rfl)) (by decide) (fun K hK => ?_)
     have hcv := own_string (P := Try.prog) Try.underlying23 Try.underlying5 Try.underlying9 (Kd.own_of_R HR1.out)
     refine value_ (w1 := ?_) (v := ?_) (by rfl) rfl ?_ ?_
     rotate_left 2
     ·go_simp
      constructor
      ·rfl
      ·rfl
     clear hcv
     refine hK.out _ _ trivial (fun hHeld => ?_)
     clear hK K
     refine norm_ (a' := ?_) ?_ ?_
     rotate_left
     ·show Act.put _ (some 198) _ = _
      simp only [Act.put, List.setIfInBounds_toArray, List.set_cons_zero, List.set_cons_succ, i64_w, i32_w]
      rfl
     refine pure_ (i := 12) (N := some 199) (v := ?_) (a' := ?_) #[true, true, true, true, true, true, true, true, true, true, true, true, true, false, false] rfl rfl (any_of HT_.out (by kernel_rfl)) (fun _ _ _ h => h) (Or.inl ⟨by rfl, ?_⟩) ?_ ?_
     rotate_left
     ·intro w'
      go_simp
      with_reducible rfl
     rotate_left
     ·simp only [Act.put, List.setIfInBounds_toArray, List.set_cons_zero, List.set_cons_succ, i64_w, i32_w]
      rfl
     refine pure_ (i := 13) (N := some 200) (v := ?_) (a' := ?_) #[true, true, true, true, true, true, true, true, true, true, true, true, true, true, false] rfl rfl (any_of HT_.out (by kernel_rfl)) (fun _ _ _ h => h) (Or.inl ⟨by rfl, ?_⟩) ?_ ?_
     rotate_left
     ·intro w'
      go_simp
      with_reducible rfl
     rotate_left
     ·simp only [Act.put, List.setIfInBounds_toArray, List.set_cons_zero, List.set_cons_succ, i64_w, i32_w]
      rfl
     refine pure_ (i := 14) (N := some 4) (v := ?_) (a' := ?_) #[true, true, true, true, true, true, true, true, true, true, true, true, true, true, true] rfl rfl (any_of HT_.out (by kernel_rfl)) (fun _ _ _ h => h) (Or.inl ⟨by rfl, ?_⟩) ?_ ?_
     rotate_left
     ·intro w'
      go_simp
      with_reducible rfl
     rotate_left
     ·simp only [Act.put, List.setIfInBounds_toArray, List.set_cons_zero, List.set_cons_succ, i64_w, i32_w]
      rfl
     refine done_ (done_of HT_.out (by kernel_rfl)) ?_
     go_wp2
     go_ret
     exact ⟨rfl, below_step HBw.out HBq.out⟩
    ·skip
     have hcv := own_string (P := Try.prog) Try.underlying23 Try.underlying5 Try.underlying9 (Kd.own_of_R HR1.out)
     refine value_ (w1 := ?_) (v := ?_) (by rfl) rfl ?_ ?_
     rotate_left 2
     ·go_simp
      constructor
      ·rfl
      ·rfl
     clear hcv
     refine hK.out _ _ trivial (fun hHeld => ?_)
     clear hK K
     refine norm_ (a' := ?_) ?_ ?_
     rotate_left
     ·show Act.put _ (some 198) _ = _
      simp only [Act.put, List.setIfInBounds_toArray, List.set_cons_zero, List.set_cons_succ, i64_w, i32_w]
      rfl
     refine one_ (i := 8) (N := some 195) #[true, true, true, true, true, true, true, true, true, true, true, true, false, false, false] rfl rfl (one_of HT_.out (by kernel_rfl)) (by decide) (fun K hK => ?_)
     have hcv := own_string (P := Try.prog) Try.underlying23 Try.underlying5 Try.underlying9 (Kd.own_of_R HR0.out)
     refine value_ (w1 := ?_) (v := ?_) (by rfl) rfl ?_ ?_
     rotate_left 2
     ·go_simp
      constructor
      ·rfl
      ·rfl
     clear hcv
     refine hK.out _ _ trivial (fun hHeld => ?_)
     clear hK K
     refine norm_ (a' := ?_) ?_ ?_
     rotate_left
     ·show Act.put _ (some 195) _ = _
      simp only [Act.put, List.setIfInBounds_toArray, List.set_cons_zero, List.set_cons_succ, i64_w, i32_w]
      rfl
     refine pure_ (i := 12) (N := some 199) (v := ?_) (a' := ?_) #[true, true, true, true, true, true, true, true, true, true, true, true, true, false, false] rfl rfl (any_of HT_.out (by kernel_rfl)) (fun _ _ _ h => h) (Or.inl ⟨by rfl, ?_⟩) ?_ ?_
     rotate_left
     ·intro w'
      go_simp
      with_reducible rfl
     rotate_left
     ·simp only [Act.put, List.setIfInBounds_toArray, List.set_cons_zero, List.set_cons_succ, i64_w, i32_w]
      rfl
     refine pure_ (i := 13) (N := some 200) (v := ?_) (a' := ?_) #[true, true, true, true, true, true, true, true, true, true, true, true, true, true, false] rfl rfl (any_of HT_.out (by kernel_rfl)) (fun _ _ _ h => h) (Or.inl ⟨by rfl, ?_⟩) ?_ ?_
     rotate_left
     ·intro w'
      go_simp
      with_reducible rfl
     rotate_left
     ·simp only [Act.put, List.setIfInBounds_toArray, List.set_cons_zero, List.set_cons_succ, i64_w, i32_w]
      rfl
     refine pure_ (i := 14) (N := some 4) (v := ?_) (a' := ?_) #[true, true, true, true, true, true, true, true, true, true, true, true, true, true, true] rfl rfl (any_of HT_.out (by kernel_rfl)) (fun _ _ _ h => h) (Or.inl ⟨by rfl, ?_⟩) ?_ ?_
     rotate_left
     ·intro w'
      go_simp
      with_reducible rfl
     rotate_left
     ·simp only [Act.put, List.setIfInBounds_toArray, List.set_cons_zero, List.set_cons_succ, i64_w, i32_w]
      rfl
     refine done_ (done_of HT_.out (by kernel_rfl)) ?_
     go_wp2
     go_ret
     exact ⟨rfl, below_step HBw.out HBq.out⟩
end Go.Proofs.Yteoonjnmghponaa.W
