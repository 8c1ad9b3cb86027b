/- The law LruTruth: for every such input the Go function returns true and leaves its arguments as they were: out of the walks. -/
import Derived.Test.YtebmfbfmdbimdaaRows
import Derived.Test.YtebmfbfmdbimdaaLruTruth
import Derived.WalkKit
import Derived.ProofKit
import Derived.OpenShut
import Derived.ShutString
import Derived.ChangeOld
import Derived.Below
import Derived.SizedLaws
import Derived.JoinedCond
import Derived.Test.YtebmfbfmdbimdaaWSized
namespace Go.Proofs.Ytebmfbfmdbimdaa.lruTruth
open Go.ChangeShapes Go.WideShapes Go.ChangeAt Go.RowKit Go.Proofs.YtebmfbfmdbimdaaW.PrintWords Go.Proofs.YtebmfbfmdbimdaaW.PrintLast Go.Proofs.YtebmfbfmdbimdaaW.PrintMore Go.Proofs.Ytebmfbfmdbimdaa.F.Li Go.Proofs.Ytebmfbfmdbimdaa.rowQ
open Go.ChangeMaps (open_string shut_string)
set_option linter.unusedVariables false
theorem own : ownKnob Try.prog.godebug = none := by kernel_rfl
theorem laidOut : laidOutB Try.prog = true := by kernel_rfl
theorem arr_list2 {α : Type} : ∀ {l : List α}, l.length = 2 → ∃ x0 x1, l = [x0, x1]
  | [x0, x1], _ => ⟨x0, x1, rfl⟩
set_option maxRecDepth 100000 in
theorem lifted (os : Os) (started : os.Started) (H : Type) (enc : TypeId × Value → H) :
    ReturnsInHanded {} Try.checked os 3 .any (Rows.lruTruthSpec.pre6 enc Try.prog Try.f3 Rows.lruTruthRow.domain false) (Rows.lruTruthSpec.post enc Try.prog Try.f3 false true false false) := by
  refine returnsInHanded_of_change_sized (C := Try.checked) own started (by kernel_rfl) Try.func3
    (ChangeSpec.witness6 (enc := enc) (C := Try.checked) false ⟨#[], #[.agg #[.int .i64 0, .int .i64 0], .slice none 0 0], []⟩ 8 (by kernel_rfl) (by kernel_rfl) (by kernel_rfl) (by kernel_rfl)) ?_
  intro W base args ds gs before hval0 hW hcnd hsz0 _
  have hsz : (DataW.weightsEach Try.prog (Try.f3.params.toList ++ Rows.lruTruthSpec.plain.varTypes Try.prog) (ds ++ gs)).all (· ≤ reachBytes) = true := hsz0
  have hval : ∀ (j : Nat) t v, Try.f3.params[j]? = some t → args[j]? = some v → Value.okWide Try.prog W .any base t v := hval0
  have hW' := hW
  obtain ⟨p, q, hA0, hV, rfl, hfz, hnd⟩ := hW
  have hA : DataW.TrodAll enc Try.prog W 0 (fun _ => true) true Try.f3.params.toList args.toList ds p := hA0
  rw [Try.params3] at hA hval hsz
  obtain ⟨v0, vs0, d0, ds0, p0, q0, hargs, rfl, rfl, h0, r0⟩ := trodAll_cons hA
  obtain ⟨v1, vs1, d1, ds1, p1, q1, rfl, rfl, rfl, h1, r1⟩ := trodAll_cons r0
  obtain ⟨rfl, rfl, rfl⟩ := trodAll_nil r1
  obtain rfl : args = #[v0, v1] := by cases args; simp_all
  obtain ⟨rfl, rfl⟩ := trodVars_none hV
  have o0 : ∃ cs, v0 = .agg cs := by
    have h := (hval 0 22 v0 rfl rfl)
    simp only [Value.okWide, Try.underlying22] at h
    obtain ⟨cs, h, _⟩ := h
    exact ⟨cs, h⟩
  obtain ⟨cs0, rfl⟩ := o0
  have k0 := h0
  have lt0 : ∀ x ∈ p0, x.block < W.heap.size := by obtain ⟨m, hm⟩ := k0; exact DataW.trod_lt m _ _ _ hm
  obtain ⟨fuel0, hf0⟩ := h0
  obtain ⟨zs0, zl0, ze0, hw0⟩ := arr_of Try.underlying22 (by kernel_rfl) hf0
  obtain ⟨e0_0, e0_1, rfl⟩ := arr_list2 zl0
  have ecs0 : cs0 = #[.int .i64 e0_0, .int .i64 e0_1] := by
    apply Array.toList_inj.1
    simpa [Value.cells] using ze0
  subst ecs0
  obtain ⟨A1, len1, c1, rfl⟩ := okWide_slice Try.underlying23 (hval 1 23 v1 rfl rfl)
  have k1 := h1
  have lt1 : ∀ x ∈ p1, x.block < W.heap.size := by obtain ⟨m, hm⟩ := k1; exact DataW.trod_lt m _ _ _ hm
  obtain ⟨fuel1, hf1⟩ := h1
  obtain ⟨l1, rfl, qc1, Q1, qw1, qb1, qs1⟩ := quads_of Try.underlying23 (q := 4) (B := 32) (by kernel_rfl) (by kernel_rfl) (fun _ _ _ h => op_of h) (by simpa [Value.cells] using hf1)
  have qz1 := qs1 hsz (j := 1) rfl rfl
  clear hA0 hval0 hsz0 hsz
  have w0 : -9223372036854775808 ≤ e0_0 ∧ e0_0 ≤ 9223372036854775807 := bounds_i64 (hw0 _ (by simp))
  have w1 : -9223372036854775808 ≤ e0_1 ∧ e0_1 ≤ 9223372036854775807 := bounds_i64 (hw0 _ (by simp))
  have hcall : Calls Try.prog 3 #[.agg #[.int .i64 e0_0, .int .i64 e0_1], .slice A1 l1.length c1] W fun e w' => e = .returned (.bool true) ∧ Below W.heap.size W w' := by
    by_cases hn : e0_0 < 0 ∨ e0_1 < 0
    · exact truth_no _ _ _ _ _ _ hn
    · exact truth_yes _ _ _ _ _ _ (by omega) (by omega) w0.2 w1.2 Q1 qz1 qc1 qw1
  refine (hcall).mono fun e W' ⟨he, bel⟩ => ?_
  subst he
  exact ⟨_, rfl, _, _, _, [], _, [], hW', trodAll_mk1 (shut_bool Try.underlying4 _), (trodAll_cons_mk (Below.trod laidOut (by kernel_rfl) (of_decide_eq_true (by kernel_rfl)) k0 bel lt0) (trodAll_cons_mk (Below.trod laidOut (by kernel_rfl) (of_decide_eq_true (by kernel_rfl)) k1 bel lt1) trodAll_mk0)), rfl, bel.frame _, fun h => by cases h⟩
theorem over : Rows.lruTruthRow.holds Try.pinned (OpenSpec.ofChange Rows.lruTruthSpec) :=
  OpenClaim.holds_of_wide 3 Try.f3 rfl rfl rfl rfl rfl rfl rfl ⟨rfl, rfl, rfl, rfl, rfl⟩ rfl rfl rfl rfl rfl (by kernel_rfl) Try.func3 (by kernel_rfl)
    (of_decide_eq_true (by kernel_rfl)) (by unfold Func.isWrapper; first | (rw [if_pos (by decide +kernel)]; kernel_rfl) | (rw [if_neg (by decide +kernel)]; exact ⟨rfl, rfl⟩))
    (fun os started H enc _ => lifted os started H enc)
theorem proved : Rows.LruTruthSaid := over
#print axioms proved
end Go.Proofs.Ytebmfbfmdbimdaa.lruTruth
namespace Go.Proofs.Ytebmfbfmdbimdaa
/-- The row, under a short name, for the claim. -/
theorem lruTruth_holds : Rows.LruTruthSaid := lruTruth.proved
end Go.Proofs.Ytebmfbfmdbimdaa
