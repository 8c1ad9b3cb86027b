/- The law BlendOutside: for every such input the Go function returns true and leaves its arguments as they were: out of the plain statement and the walks. -/
import Derived.Test.YtplnaannfnhhgabRows
import Derived.Test.YtplnaannfnhhgabOx2
import Derived.Test.YtplnaannfnhhgabPureBlendOutside
import Derived.Test.YtplnaannfnhhgabArgRow
import Derived.WalkKit
import Derived.ProofKit
import Derived.OpenShut
import Derived.ShutString
import Derived.ChangeOld
import Derived.Below
import Derived.SizedLaws
import Derived.JoinedCond
import Derived.Test.YtplnaannfnhhgabWSized
namespace Go.Proofs.Ytplnaannfnhhgab.blendOutside
open Go.ChangeShapes Go.WideShapes Go.ChangeAt Go.RowKit Go.Proofs.Ytplnaannfnhhgab.O Go.Proofs.Ytplnaannfnhhgab.rowB Go.Proofs.YtplnaannfnhhgabW.PrintWords Go.Proofs.YtplnaannfnhhgabW.PrintLast Go.Proofs.YtplnaannfnhhgabW.PrintMore
open Go.ChangeMaps (open_string shut_string)
set_option linter.unusedVariables false
theorem own : ownKnob Try.prog.godebug = none := by kernel_rfl
theorem laidOut : laidOutB Try.prog = true := by kernel_rfl
theorem byt {l : List Int} (h : ∀ z ∈ l, (Lit.int .u8 z).wf = true) : ∀ z ∈ l, 0 ≤ z ∧ z ≤ 255 := fun z hz => Go.Proofs.Ytplnaannfnhhgab.F.byte_wf (h z hz)
set_option maxRecDepth 100000 in
theorem lifted (os : Os) (started : os.Started) (H : Type) (enc : TypeId × Value → H) :
    ReturnsInHanded {} Try.checked os 7 .any (Rows.blendOutsideSpec.pre6 enc Try.prog Try.f7 Rows.blendOutsideRow.domain false) (Rows.blendOutsideSpec.post enc Try.prog Try.f7 false true false false) := by
  refine returnsInHanded_of_change_sized (C := Try.checked) own started (by kernel_rfl) Try.func7
    (ChangeSpec.witness6 (enc := enc) (C := Try.checked) false ⟨#[], #[.agg #[.int .i64 0, .int .i64 0, .slice none 0 0, .int .i64 0, .int .i64 0, .int .i64 0, .int .i64 0, .slice none 0 0, .int .i64 0, .int .i64 0, .int .u8 0]], []⟩ 8 (by kernel_rfl) (by kernel_rfl) (by kernel_rfl) (by kernel_rfl)) ?_
  intro W base args ds gs before hval0 hW hcnd hsz0 _
  have hsz : (DataW.weightsEach Try.prog (Try.f7.params.toList ++ Rows.blendOutsideSpec.plain.varTypes Try.prog) (ds ++ gs)).all (· ≤ reachBytes) = true := hsz0
  have hval : ∀ (j : Nat) t v, Try.f7.params[j]? = some t → args[j]? = some v → Value.okWide Try.prog W .any base t v := hval0
  have hW' := hW
  obtain ⟨p, q, hA0, hV, rfl, hfz, hnd⟩ := hW
  have hA : DataW.TrodAll enc Try.prog W 0 (fun _ => true) true Try.f7.params.toList args.toList ds p := hA0
  rw [Try.params7] at hA hval hsz
  obtain ⟨v0, vs0, d0, ds0, p0, q0, hargs, rfl, rfl, h0, r0⟩ := trodAll_cons hA
  obtain ⟨rfl, rfl, rfl⟩ := trodAll_nil r0
  obtain rfl : args = #[v0] := by cases args; simp_all
  obtain ⟨rfl, rfl⟩ := trodVars_none hV
  obtain ⟨cs0, rfl, hcs0⟩ := okWide_struct Try.underlying36 (hval 0 36 v0 rfl rfl)
  have k0 := h0
  have lt0 : ∀ x ∈ p0, x.block < W.heap.size := by obtain ⟨m, hm⟩ := k0; exact DataW.trod_lt m _ _ _ hm
  obtain ⟨fuel0, hf0⟩ := h0
  obtain ⟨w0, h0, A, c, l, X, Y, w1, h1, B, e, ml, dx, dy, ink, hcs, hwm, ⟨hwdx, hwdy, hwi⟩, B1, B2⟩ := laying_of hf0
  have ecs : cs0 = #[.int .i64 w0, .int .i64 h0, .slice A l.length c, .int .i64 X, .int .i64 Y, .int .i64 w1, .int .i64 h1, .slice B ml.length e, .int .i64 dx, .int .i64 dy, .int .u8 ink] := by
    apply Array.toList_inj.1
    simpa [Value.cells] using hcs
  subst ecs
  have b1 := B1.reach (j := 0) rfl rfl hsz
  have b2 := B2.reach (j := 0) rfl rfl hsz
  obtain ⟨k, hP⟩ := Pure.BlendOutside w0 h0 X Y w1 h1 dx dy ink l ml b1 b2 (byt B1.wf) (byt B2.wf) (Go.Proofs.Ytplnaannfnhhgab.F.byte_wf hwi)
  clear hA0 hval0 hsz0 hsz
  refine (seriflaw22_BlendOutside.calls k w0 h0 A c l X Y w1 h1 B e ml dx dy ink true W B1.row B1.cap B2.row B2.cap hP).mono fun e W' ⟨he, bel⟩ => ?_
  subst he
  exact ⟨_, rfl, _, _, _, [], _, [], hW', trodAll_mk1 (shut_bool Try.underlying4 _), (trodAll_cons_mk (Below.trod laidOut (by kernel_rfl) (of_decide_eq_true (by kernel_rfl)) k0 bel lt0) trodAll_mk0), rfl, bel.frame _, fun h => by cases h⟩
theorem over : Rows.blendOutsideRow.holds Try.pinned (OpenSpec.ofChange Rows.blendOutsideSpec) :=
  OpenClaim.holds_of_wide 7 Try.f7 rfl rfl rfl rfl rfl rfl rfl ⟨rfl, rfl, rfl, rfl, rfl⟩ rfl rfl rfl rfl rfl (by kernel_rfl) Try.func7 (by kernel_rfl)
    (of_decide_eq_true (by kernel_rfl)) (by unfold Func.isWrapper; first | (rw [if_pos (by decide +kernel)]; kernel_rfl) | (rw [if_neg (by decide +kernel)]; exact ⟨rfl, rfl⟩))
    (fun os started H enc _ => lifted os started H enc)
theorem proved : Rows.BlendOutsideSaid := over
#print axioms proved
end Go.Proofs.Ytplnaannfnhhgab.blendOutside
namespace Go.Proofs.Ytplnaannfnhhgab
/-- The row, under a short name, for the claim. -/
theorem blendOutside_holds : Rows.BlendOutsideSaid := blendOutside.proved
end Go.Proofs.Ytplnaannfnhhgab
