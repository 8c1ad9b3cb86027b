/- The law BlendApart: for every such input the Go function returns true and leaves its arguments as they were: out of the plain statement and the walks. -/
import Derived.Test.YtplnaannfnhhgabRows
import Derived.Test.YtplnaannfnhhgabEx5
import Derived.Test.YtplnaannfnhhgabPureBlendApart
import Derived.Test.YtplnaannfnhhgabArgRow
import Derived.WalkKit
import Derived.ProofKit
import Derived.OpenShut
import Derived.ShutString
import Derived.ChangeOld
import Derived.Below
import Derived.SizedLaws
import Derived.JoinedCond
import Derived.Test.YtplnaannfnhhgabWSized
namespace Go.Proofs.Ytplnaannfnhhgab.blendApart
open Go.ChangeShapes Go.WideShapes Go.ChangeAt Go.RowKit Go.Proofs.Ytplnaannfnhhgab.E Go.Proofs.Ytplnaannfnhhgab.rowB Go.Proofs.YtplnaannfnhhgabW.PrintWords Go.Proofs.YtplnaannfnhhgabW.PrintLast Go.Proofs.YtplnaannfnhhgabW.PrintMore
open Go.ChangeMaps (open_string shut_string)
set_option linter.unusedVariables false
theorem own : ownKnob Try.prog.godebug = none := by kernel_rfl
theorem laidOut : laidOutB Try.prog = true := by kernel_rfl
theorem byt {l : List Int} (h : ∀ z ∈ l, (Lit.int .u8 z).wf = true) : ∀ z ∈ l, 0 ≤ z ∧ z ≤ 255 := fun z hz => Go.Proofs.Ytplnaannfnhhgab.F.byte_wf (h z hz)
set_option maxRecDepth 100000 in
theorem lifted (os : Os) (started : os.Started) (H : Type) (enc : TypeId × Value → H) :
    ReturnsInHanded {} Try.checked os 8 .any (Rows.blendApartSpec.pre6 enc Try.prog Try.f8 Rows.blendApartRow.domain false) (Rows.blendApartSpec.post enc Try.prog Try.f8 false true false false) := by
  refine returnsInHanded_of_change_sized (C := Try.checked) own started (by kernel_rfl) Try.func8
    (ChangeSpec.witness6 (enc := enc) (C := Try.checked) false ⟨#[], #[.agg #[.int .i64 0, .int .i64 0, .slice none 0 0], .agg #[.int .i64 0, .int .i64 0, .int .i64 0, .int .i64 0, .slice none 0 0], .agg #[.int .i64 0, .int .i64 0, .int .i64 0, .int .i64 0, .slice none 0 0]], []⟩ 8 (by kernel_rfl) (by kernel_rfl) (by kernel_rfl) (by kernel_rfl)) ?_
  intro W base args ds gs before hval0 hW hcnd hsz0 _
  have hsz : (DataW.weightsEach Try.prog (Try.f8.params.toList ++ Rows.blendApartSpec.plain.varTypes Try.prog) (ds ++ gs)).all (· ≤ reachBytes) = true := hsz0
  have hval : ∀ (j : Nat) t v, Try.f8.params[j]? = some t → args[j]? = some v → Value.okWide Try.prog W .any base t v := hval0
  have hW' := hW
  obtain ⟨p, q, hA0, hV, rfl, hfz, hnd⟩ := hW
  have hA : DataW.TrodAll enc Try.prog W 0 (fun _ => true) true Try.f8.params.toList args.toList ds p := hA0
  rw [Try.params8] at hA hval hsz
  obtain ⟨v0, vs0, d0, ds0, p0, q0, hargs, rfl, rfl, h0, r0⟩ := trodAll_cons hA
  obtain ⟨v1, vs1, d1, ds1, p1, q1, rfl, rfl, rfl, h1, r1⟩ := trodAll_cons r0
  obtain ⟨v2, vs2, d2, ds2, p2, q2, rfl, rfl, rfl, h2, r2⟩ := trodAll_cons r1
  obtain ⟨rfl, rfl, rfl⟩ := trodAll_nil r2
  obtain rfl : args = #[v0, v1, v2] := by cases args; simp_all
  obtain ⟨rfl, rfl⟩ := trodVars_none hV
  obtain ⟨cs0, rfl, hcs0⟩ := okWide_struct Try.underlying32 (hval 0 32 v0 rfl rfl)
  have k0 := h0
  have lt0 : ∀ x ∈ p0, x.block < W.heap.size := by obtain ⟨m, hm⟩ := k0; exact DataW.trod_lt m _ _ _ hm
  obtain ⟨fuel0, hf0⟩ := h0
  obtain ⟨w0, h0, A, c, l, hcs, PG⟩ := page_of hf0
  have ecs0 : cs0 = #[.int .i64 w0, .int .i64 h0, .slice A l.length c] := by
    apply Array.toList_inj.1
    simpa [Value.cells] using hcs
  subst ecs0
  clear hcs
  obtain ⟨cs1, rfl, hcs1⟩ := okWide_struct Try.underlying34 (hval 1 34 v1 rfl rfl)
  have k1 := h1
  have lt1 : ∀ x ∈ p1, x.block < W.heap.size := by obtain ⟨m, hm⟩ := k1; exact DataW.trod_lt m _ _ _ hm
  obtain ⟨fuel1, hf1⟩ := h1
  obtain ⟨X1, Y1, w1, h1, B1, e1, ml1, hcs, hwm1, C1⟩ := mask_of hf1
  have ecs1 : cs1 = #[.int .i64 X1, .int .i64 Y1, .int .i64 w1, .int .i64 h1, .slice B1 ml1.length e1] := by
    apply Array.toList_inj.1
    simpa [Value.cells] using hcs
  subst ecs1
  clear hcs
  obtain ⟨cs2, rfl, hcs2⟩ := okWide_struct Try.underlying34 (hval 2 34 v2 rfl rfl)
  have k2 := h2
  have lt2 : ∀ x ∈ p2, x.block < W.heap.size := by obtain ⟨m, hm⟩ := k2; exact DataW.trod_lt m _ _ _ hm
  obtain ⟨fuel2, hf2⟩ := h2
  obtain ⟨X2, Y2, w2, h2, B2, e2, ml2, hcs, hwm2, C2⟩ := mask_of hf2
  have ecs2 : cs2 = #[.int .i64 X2, .int .i64 Y2, .int .i64 w2, .int .i64 h2, .slice B2 ml2.length e2] := by
    apply Array.toList_inj.1
    simpa [Value.cells] using hcs
  subst ecs2
  clear hcs
  have b1 := PG.reach (j := 0) rfl rfl hsz
  have b2 := C1.reach (j := 1) rfl rfl hsz
  have b3 := C2.reach (j := 2) rfl rfl hsz
  obtain ⟨k, hP⟩ := Pure.BlendApart w0 h0 X1 Y1 w1 h1 X2 Y2 w2 h2 l ml1 ml2 b1 b2 b3 (byt PG.wf) (byt C1.wf) (byt C2.wf)
  clear hA0 hval0 hsz0 hsz
  refine (seriflaw22_BlendApart.calls k w0 h0 A c l X1 Y1 w1 h1 _ e1 ml1 X2 Y2 w2 h2 _ e2 ml2 true W PG.row PG.cap C1.row C1.cap C2.row C2.cap hP).mono fun e W' ⟨he, bel⟩ => ?_
  subst he
  exact ⟨_, rfl, _, _, _, [], _, [], hW', trodAll_mk1 (shut_bool Try.underlying4 _), (trodAll_cons_mk (Below.trod laidOut (by kernel_rfl) (of_decide_eq_true (by kernel_rfl)) k0 bel lt0) (trodAll_cons_mk (Below.trod laidOut (by kernel_rfl) (of_decide_eq_true (by kernel_rfl)) k1 bel lt1) (trodAll_cons_mk (Below.trod laidOut (by kernel_rfl) (of_decide_eq_true (by kernel_rfl)) k2 bel lt2) trodAll_mk0))), rfl, bel.frame _, fun h => by cases h⟩
theorem over : Rows.blendApartRow.holds Try.pinned (OpenSpec.ofChange Rows.blendApartSpec) :=
  OpenClaim.holds_of_wide 8 Try.f8 rfl rfl rfl rfl rfl rfl rfl ⟨rfl, rfl, rfl, rfl, rfl⟩ rfl rfl rfl rfl rfl (by kernel_rfl) Try.func8 (by kernel_rfl)
    (of_decide_eq_true (by kernel_rfl)) (by unfold Func.isWrapper; first | (rw [if_pos (by decide +kernel)]; kernel_rfl) | (rw [if_neg (by decide +kernel)]; exact ⟨rfl, rfl⟩))
    (fun os started H enc _ => lifted os started H enc)
theorem proved : Rows.BlendApartSaid := over
#print axioms proved
end Go.Proofs.Ytplnaannfnhhgab.blendApart
namespace Go.Proofs.Ytplnaannfnhhgab
/-- The row, under a short name, for the claim. -/
theorem blendApart_holds : Rows.BlendApartSaid := blendApart.proved
end Go.Proofs.Ytplnaannfnhhgab
