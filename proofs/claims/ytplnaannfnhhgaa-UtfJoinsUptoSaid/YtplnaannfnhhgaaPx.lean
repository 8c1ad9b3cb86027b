/- The plain functions of some Go functions and the proofs that the Go code comes to their answers: written by a program out of the translation. -/
import Derived.Test.YtplnaannfnhhgaaPx0
import Derived.Test.YtplnaannfnhhgaaPx1
import Derived.Test.YtplnaannfnhhgaaPx2
import Derived.Test.YtplnaannfnhhgaaPx3
import Derived.Test.YtplnaannfnhhgaaPx4
import Derived.Test.YtplnaannfnhhgaaPx5
import Derived.Test.YtplnaannfnhhgaaPx6
namespace Go.Proofs.Ytplnaannfnhhgaa.P
open Go.RowKit Go.Proofs.YtplnaannfnhhgaaW.PrintWords Go.Proofs.YtplnaannfnhhgaaW.PrintLast Go.Proofs.YtplnaannfnhhgaaW.PrintMore
attribute [local go_sem] max2_int min2_int max_two min_two max_three min_three max_four min_four   -- for this text's walks alone
open Go.Proofs.Ytplnaannfnhhgaa.F
set_option linter.unusedVariables false
set_option linter.unusedSimpArgs false

end Go.Proofs.Ytplnaannfnhhgaa.P
