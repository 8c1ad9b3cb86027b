import Derived.Test.YtplnaannfnhhgabPucd
namespace Go.Proofs.Ytplnaannfnhhgab.Pure
open Go.RowKit Go.Proofs.Ytplnaannfnhhgab.P Go.Proofs.Ytplnaannfnhhgab.F Go.Proofs.YtplnaannfnhhgabW.PrintWords Go.Proofs.YtplnaannfnhhgabW.PrintLast

theorem mirR_none (c : Int) : ∀ (l : List (Int × Int)), (∀ p ∈ l, p.1 ≠ c ∧ p.2 ≠ c) → mirR c l = c
  | [], _ => rfl
  | p :: l, h => by
    have hp := h p List.mem_cons_self
    unfold mirR
    rw [if_neg (fun e => hp.1 e.symm), if_neg (fun e => hp.2 e.symm)]
    exact mirR_none c l (fun q hq => h q (List.mem_cons_of_mem _ hq))
theorem braR_none (c : Int) : ∀ (l : List (Int × Int)), (∀ p ∈ l, p.1 ≠ c ∧ p.2 ≠ c) → braR c l = (0, 0)
  | [], _ => rfl
  | p :: l, h => by
    have hp := h p List.mem_cons_self
    unfold braR
    rw [if_neg (fun e => hp.1 e.symm), if_neg (fun e => hp.2 e.symm)]
    exact braR_none c l (fun q hq => h q (List.mem_cons_of_mem _ hq))
theorem UcdLooks : seriflaw12_UcdLooks.Pure := by
  intro a0 _
  by_cases h : a0 ∈ mirL
  · have hall : ∀ x ∈ mirL, seriflaw12_UcdLooks.f x = some true := by decide +kernel
    exact hall a0 h
  · have hb : a0 ∉ braL := fun hb => h (by
      unfold braL at hb
      unfold mirL
      simp only [List.mem_cons, List.not_mem_nil, or_false] at hb ⊢
      omega)
    have m1 : ∀ p ∈ serifref12_Mirror.L, p.1 ≠ a0 ∧ p.2 ≠ a0 := by
      have : ∀ p ∈ serifref12_Mirror.L, p.1 ∈ mirL ∧ p.2 ∈ mirL := by decide +kernel
      exact fun p hp => ⟨fun e => h (e ▸ (this p hp).1), fun e => h (e ▸ (this p hp).2)⟩
    have m2 : ∀ p ∈ serifref12_Bracket.L, p.1 ≠ a0 ∧ p.2 ≠ a0 := by
      have : ∀ p ∈ serifref12_Bracket.L, p.1 ∈ mirL ∧ p.2 ∈ mirL := by decide +kernel
      exact fun p hp => ⟨fun e => h (e ▸ (this p hp).1), fun e => h (e ▸ (this p hp).2)⟩
    have e1 : serifref12_Mirror.f a0 = some a0 := by unfold serifref12_Mirror.f; rw [mirR_none a0 _ m1]
    have e2 : serifref12_Bracket.f a0 = some (0, 0) := by unfold serifref12_Bracket.f; rw [braR_none a0 _ m2]
    have e3 : serifref12_Look.f a0 = some (lookT a0) := rfl
    have e4 : ucd_Look.f a0 = some (lookT a0) := rfl
    unfold seriflaw12_UcdLooks.f
    rw [alive, Option.bind_some, if_pos rfl, bracket_none a0 hb, Option.bind_some, e2, Option.bind_some, e3, e4, Option.bind_some, Option.bind_some, if_pos (by simp), mirror_none a0 h, Option.bind_some, e1, Option.bind_some, if_pos rfl]
    rfl

end Go.Proofs.Ytplnaannfnhhgab.Pure
