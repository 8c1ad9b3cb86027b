import Derived.Test.YtplnaannfnhhgabRefBrk
namespace Go.Proofs.Ytplnaannfnhhgab.Pure
open Go.RowKit Go.Proofs.Ytplnaannfnhhgab.P Go.Proofs.Ytplnaannfnhhgab.B Go.Proofs.YtplnaannfnhhgabW.PrintWords Go.Proofs.YtplnaannfnhhgabW.PrintLast

theorem BreaksRules : seriflaw18_BreaksRules.Pure := by
  intro l0 _ hb _
  exact (rules l0 hb).rounds

end Go.Proofs.Ytplnaannfnhhgab.Pure
