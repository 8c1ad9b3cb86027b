/- The plain statement of the law UtfJoins, proved: for every input that its row speaks of, the printed function of the law comes to true. -/
import Derived.Test.YtplnaannfnhhgaaUe
namespace Go.Proofs.Ytplnaannfnhhgaa.Pure
open Go.RowKit Go.Proofs.Ytplnaannfnhhgaa.P Go.Proofs.Ytplnaannfnhhgaa.F Go.Proofs.Ytplnaannfnhhgaa.U Go.Proofs.YtplnaannfnhhgaaW.PrintWords Go.Proofs.YtplnaannfnhhgaaW.PrintLast
theorem UtfJoins (l0 l1 : List Int) (hw : ∀ x ∈ l0, (Lit.int .i64 x).wf = true) (hv : ∀ x ∈ l1, (Lit.int .u8 x).wf = true) (hl : l0.length + l1.length ≤ 1048576) : ∃ k, seriflaw11_UtfJoins.f k l0 l1 = some true := (joins l0 l1 hw (byt_of hv) hl).rounds
end Go.Proofs.Ytplnaannfnhhgaa.Pure
