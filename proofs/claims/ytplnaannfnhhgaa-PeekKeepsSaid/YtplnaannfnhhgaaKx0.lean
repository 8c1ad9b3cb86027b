/- The plain functions of some Go functions and the proofs that the Go code comes to their answers: written by a program out of the translation. -/
import Derived.Test.YtplnaannfnhhgaaProg
import Derived.Below
import Derived.Deep.Draws
import Derived.Deep.AppendLies
import Derived.Maps.AppendAt
import Derived.OwnWalk
import Derived.Laws.BytesArg
import Derived.Laws.MakeOwn
import Derived.Laws.OwnMore
import Derived.Deep.OwnRows
import Derived.Tactics
import Derived.Lib.ConvBytes
import Derived.Laws.Slices
import Derived.WalkKit
import Derived.KernelRfl
import Derived.RowKit3
import Derived.Deep.LoopGhost
import Derived.Deep.QuietTactic
import Derived.BigQuiet
import Derived.WideLaws
import Derived.Deep.DeepCutAuto
import Derived.Deep.CutBlock
import Derived.Deep.RegionHeld3
import Derived.Laws.Rows
import Derived.Lib.AppendStr
import Derived.ArgAppend
import Derived.Laws.IdiomCopy
import Derived.OrdersHeld
import Derived.Laws.BitsLemmas
import Derived.RowKit
import Derived.Test.YtplnaannfnhhgaaWWords
import Derived.Test.YtplnaannfnhhgaaWLast
import Derived.Test.YtplnaannfnhhgaaWTab
import Derived.Test.YtplnaannfnhhgaaWFour
import Derived.Test.YtplnaannfnhhgaaWQPut
import Derived.Test.YtplnaannfnhhgaaWApart
import Derived.Test.YtplnaannfnhhgaaWArr
import Derived.Test.YtplnaannfnhhgaaWZeros
import Derived.Test.YtplnaannfnhhgaaWFoot
import Derived.Test.YtplnaannfnhhgaaWKept
import Derived.Test.YtplnaannfnhhgaaWShare
import Derived.Test.YtplnaannfnhhgaaWN
import Derived.Test.YtplnaannfnhhgaaWFootNe
import Derived.Test.YtplnaannfnhhgaaWAt
import Derived.Test.YtplnaannfnhhgaaWEqStruct
import Derived.Test.YtplnaannfnhhgaaWRepsOne
import Derived.Test.YtplnaannfnhhgaaWInv
import Derived.Test.YtplnaannfnhhgaaWInvWords
import Derived.Test.YtplnaannfnhhgaaWGuard
import Derived.Test.YtplnaannfnhhgaaWNEv
import Derived.Test.YtplnaannfnhhgaaWMore
namespace Go.Proofs.Ytplnaannfnhhgaa.K
open Go.RowKit Go.Proofs.YtplnaannfnhhgaaW.PrintWords Go.Proofs.YtplnaannfnhhgaaW.PrintLast Go.Proofs.YtplnaannfnhhgaaW.PrintMore
attribute [local go_sem] max2_int min2_int max_two min_two max_three min_three max_four min_four   -- for this text's walks alone
set_option linter.unusedVariables false
set_option linter.unusedSimpArgs false



def errW : Option Int → Value
  | none => .nilIface
  | some c => .iface 0 (.int .i64 c)
theorem errW_none : errW none = .nilIface := rfl
theorem errW_some (c : Int) : errW (some c) = .iface 0 (.int .i64 c) := rfl

-- the values' own types

end Go.Proofs.Ytplnaannfnhhgaa.K
