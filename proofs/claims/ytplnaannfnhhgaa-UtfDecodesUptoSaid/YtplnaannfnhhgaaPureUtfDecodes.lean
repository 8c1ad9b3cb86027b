/- The plain statement of the law UtfDecodes, proved: for every input that its row speaks of, the printed function of the law comes to true. -/
import Derived.Test.YtplnaannfnhhgaaUe
namespace Go.Proofs.Ytplnaannfnhhgaa.Pure
open Go.RowKit Go.Proofs.Ytplnaannfnhhgaa.P Go.Proofs.Ytplnaannfnhhgaa.F Go.Proofs.Ytplnaannfnhhgaa.U Go.Proofs.YtplnaannfnhhgaaW.PrintWords Go.Proofs.YtplnaannfnhhgaaW.PrintLast
theorem UtfDecodes (l0 : List Int) (hw : ∀ x ∈ l0, (Lit.int .u8 x).wf = true) (hl : l0.length ≤ 1048576) : ∃ k, seriflaw11_UtfDecodes.f k l0 = some true := (decodes l0 (byt_of hw) hl).rounds
end Go.Proofs.Ytplnaannfnhhgaa.Pure
