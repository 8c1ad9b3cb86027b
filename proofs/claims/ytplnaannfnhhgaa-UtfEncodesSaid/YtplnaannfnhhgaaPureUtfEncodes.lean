/- The plain statement of the law UtfEncodes, proved: for every input that its row speaks of, the printed function of the law comes to true. -/
import Derived.Test.YtplnaannfnhhgaaUe
namespace Go.Proofs.Ytplnaannfnhhgaa.Pure
open Go.RowKit Go.Proofs.Ytplnaannfnhhgaa.P Go.Proofs.Ytplnaannfnhhgaa.F Go.Proofs.Ytplnaannfnhhgaa.U Go.Proofs.YtplnaannfnhhgaaW.PrintWords Go.Proofs.YtplnaannfnhhgaaW.PrintLast
theorem UtfEncodes : seriflaw11_UtfEncodes.Pure := fun l0 _ hl hw => (encodes l0 hw hl).rounds
end Go.Proofs.Ytplnaannfnhhgaa.Pure
