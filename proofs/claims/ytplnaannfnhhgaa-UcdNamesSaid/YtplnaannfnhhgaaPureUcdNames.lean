import Derived.Test.YtplnaannfnhhgaaQx2
namespace Go.Proofs.Ytplnaannfnhhgaa.Pure
open Go.RowKit Go.Proofs.Ytplnaannfnhhgaa.Q Go.Proofs.YtplnaannfnhhgaaW.PrintWords Go.Proofs.YtplnaannfnhhgaaW.PrintLast

theorem UcdNames : seriflaw12_UcdNames.Pure := by
  unfold seriflaw12_UcdNames.Pure
  decide +kernel

end Go.Proofs.Ytplnaannfnhhgaa.Pure
