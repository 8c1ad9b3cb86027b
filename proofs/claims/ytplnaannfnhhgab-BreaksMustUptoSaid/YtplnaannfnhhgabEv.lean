/- Straight code, run by the kernel: what it comes to is read off one closed computation over a world that is a letter. -/
import Derived.Test.YtplnaannfnhhgabProg
import Derived.WalkKit
import Derived.KernelRfl
namespace Go.Proofs.Ytplnaannfnhhgab.F
open Go.RowKit
set_option linter.unusedVariables false

/-- Operations without guards, in their order. -/
def runOps (P : Program) : List Oper → Act → World → Option (Act × World)
  | [], a, w => some (a, w)
  | o :: rest, a, w =>
    match o.guard with
    | none =>
      match (execOp a.eval o).run P w with
      | .ok (.value v) w' => runOps P rest (a.put o.dst v) w'
      | .ok .skip w' => runOps P rest (a.put o.dst undef) w'
      | _ => none
    | some _ => none
theorem runOps_wp {P : Program} {ops : Array Oper} {Q : Exit → Act → World → Prop} : ∀ {l : List Oper} {a a' : Act} {w w' : World}, runOps P l a w = some (a', w') → Q .normal a' w' → wpList P ops Q l a w
  | [], a, a', w, w', h, hq => by
    simp only [runOps, Option.some.injEq, Prod.mk.injEq] at h
    obtain ⟨rfl, rfl⟩ := h
    exact wpList_nil hq
  | o :: rest, a, a', w, w', h, hq => by
    unfold runOps at h
    split at h
    · rename_i hg
      refine wpList_plain hg fun K hK => ?_
      unfold Oper.wp
      split at h
      · rename_i v w1 hr
        rw [hr, Oper.upon_value]
        exact hK _ _ (runOps_wp h hq)
      · rename_i w1 hr
        rw [hr, Oper.upon_skip]
        exact hK _ _ (runOps_wp h hq)
      · cases h
    · cases h
/-- Straight code: regions that draw nothing, one behind the other, and a return. -/
def evalC (P : Program) : Code → Act → World → Option (Bool × Act × World)
  | .skip, a, w => some (false, a, w)
  | .ret, a, w => some (true, a, w)
  | .region _ ops false, a, w => (runOps P ops.toList a w).map fun r => (false, r.1, r.2)
  | .seq x y, a, w => match evalC P x a w with
    | some (false, a', w') => evalC P y a' w'
    | r => r
  | _, _, _ => none
theorem evalC_wp {P : Program} : ∀ (c : Code) {Q : Exit → Act → World → Prop} {a a' : Act} {w w' : World} {b : Bool}, evalC P c a w = some (b, a', w') → Q (if b then .ret else .normal) a' w' → c.wp P Q a w := by
  intro c
  induction c with
  | skip =>
    intro Q a a' w w' b h hq
    simp only [evalC, Option.some.injEq, Prod.mk.injEq] at h
    obtain ⟨rfl, rfl, rfl⟩ := h
    exact wp_skip hq
  | ret =>
    intro Q a a' w w' b h hq
    simp only [evalC, Option.some.injEq, Prod.mk.injEq] at h
    obtain ⟨rfl, rfl, rfl⟩ := h
    exact wp_ret hq
  | region id ops dr =>
    intro Q a a' w w' b h hq
    cases dr with
    | true => simp [evalC] at h
    | false =>
      simp only [evalC] at h
      obtain ⟨r, hr, he⟩ := Option.map_eq_some_iff.1 h
      simp only [Prod.mk.injEq] at he
      obtain ⟨rfl, rfl, rfl⟩ := he
      exact wp_region_list (runOps_wp (by rw [hr]) hq)
  | seq x y ihx ihy =>
    intro Q a a' w w' b h hq
    simp only [evalC] at h
    refine wp_seq ?_
    split at h
    · rename_i a1 w1 hx
      exact ihx hx (ihy h hq)
    · rename_i r hne
      cases hx : evalC P x a w with
      | none => rw [hx] at h; cases h
      | some p =>
        obtain ⟨b1, a1, w1⟩ := p
        rw [hx] at h
        cases b1 with
        | false => exact absurd hx (hne a1 w1)
        | true =>
          simp only [Option.some.injEq, Prod.mk.injEq] at h
          obtain ⟨rfl, rfl, rfl⟩ := h
          exact ihx hx hq
  | _ => intro Q a a' w w' b h hq; simp [evalC] at h
theorem calls_eval {P : Program} {f : FuncId} {fn : Func} {c : Code} {args : Array Value} {w w' : World} {R : Ending → World → Prop} {v : Value} (hf : P.funcs[f]? = some fn) (hb : fn.body = some c)
    (h : (evalC P c { tmps := args ++ Array.replicate (fn.ntmps - args.size) undef, defers := [] } w).map (fun r => (r.2.1.defers.isEmpty, (results fn r.2.1.tmps).run P r.2.2, r.2.2)) = some (true, .ok v w', w')) (hR : R (.returned v) w') : Calls P f args w R := by
  obtain ⟨r, hr, he⟩ := Option.map_eq_some_iff.1 h
  obtain ⟨b, a1, w1⟩ := r
  simp only [Prod.mk.injEq] at he
  obtain ⟨h1, h2, rfl⟩ := he
  refine calls_of_wp hf hb (evalC_wp c hr ?_)
  cases b
  · exact ⟨List.isEmpty_iff.1 h1, v, h2, hR⟩
  · exact ⟨List.isEmpty_iff.1 h1, v, h2, hR⟩
end Go.Proofs.Ytplnaannfnhhgab.F
