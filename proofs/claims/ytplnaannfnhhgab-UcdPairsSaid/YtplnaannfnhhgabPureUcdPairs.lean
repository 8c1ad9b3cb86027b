import Derived.Test.YtplnaannfnhhgabPucd
namespace Go.Proofs.Ytplnaannfnhhgab.Pure
open Go.RowKit Go.Proofs.Ytplnaannfnhhgab.P Go.Proofs.Ytplnaannfnhhgab.F Go.Proofs.YtplnaannfnhhgabW.PrintWords Go.Proofs.YtplnaannfnhhgabW.PrintLast

theorem UcdPairs : seriflaw12_UcdPairs.Pure := by
  intro a0 _
  by_cases h : a0 ∈ mirL
  · have hall : ∀ x ∈ mirL, seriflaw12_UcdPairs.f x = some true := by decide +kernel
    exact hall a0 h
  · have hb : a0 ∉ braL := fun hb => h (by
      unfold braL at hb
      unfold mirL
      simp only [List.mem_cons, List.not_mem_nil, or_false] at hb ⊢
      omega)
    unfold seriflaw12_UcdPairs.f
    rw [alive, Option.bind_some, if_pos rfl, mirror_none a0 h, Option.bind_some, mirror_none a0 h, Option.bind_some, if_pos rfl, bracket_none a0 hb]
    rfl

end Go.Proofs.Ytplnaannfnhhgab.Pure
