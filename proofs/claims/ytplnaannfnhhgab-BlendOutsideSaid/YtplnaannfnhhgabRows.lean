/-
  No cell of these rows narrows 'for every input' (looked for: loops, veiled, ifaces, maps, wideKeys, modest, calm, conditions, laid).
  DERIVED. THE GIVEN ROWS OF THIS SEAT. 12 by the template 'for every input the law returns true; each argument reads behind the call as it read before'; 0 by the template 'total and deterministic' (their statements: YtplnaannfnhhgabTotals.lean).
  GIVEN WITH THE SEED: the statements are not yours to turn. If you find one false, say at which input.
  Laid BY PROGRAM, IN A SANDBOX (cutbox-rows.mjs): the forced cells as the released guide's own fill.sh prints them over the translation 50a87adb1d494e58… (all of the seat's roots in one cut). By AI agents, Wed Nov 11 2026. No macro, syntax, notation, axiom, sorry.
-/
import Derived.Test.YtplnaannfnhhgabChecked
import GoSem.Claim
import GoSem.ClaimJoined
import GoSem.ClaimMapViews
import Derived.JoinedTies
import Derived.KernelRfl
namespace Go.Proofs.Ytplnaannfnhhgab
/- THE CELL 'sum', in the pinned program and in every row, IS THE sha256 OF THE DUMP (.gsa) THAT YtplnaannfnhhgabProg.lean LOADS. Nothing in Lean hashes anything: it is a label: what it is worth is what the hold of that sum in a sandbox is worth. -/
noncomputable def Try.pinned : Pinned := { name := "ytplnaannfnhhgab", sum := "50a87adb1d494e585bb7f90c05ddb22fd59cb46caf54692e3e0d1cfedbc31ab1", checked := Try.checked }
namespace Rows
def none {H : Type} : Left H := { results := [], args := [] }

/-- 'seriflaw12.UcdRanges': WHATEVER THE INPUT: true; the input reads as it did. -/
def ucdRangesSpec : ChangeSpec := { name := "ucdRanges", fn := fun _ => fun
  | [d] => { results := [.lit (.bool true)], args := [d] }
  | _ => none }
def ucdRangesRow : OpenClaim := { program := "ytplnaannfnhhgab", sum := "50a87adb1d494e585bb7f90c05ddb22fd59cb46caf54692e3e0d1cfedbc31ab1", func := "serif/seriflaw12.UcdRanges", spec := "ucdRanges", unfollowed := true, recurses := true, apart := false }
def UcdRangesSaid : Prop := ucdRangesRow.holds Try.pinned (OpenSpec.ofChange ucdRangesSpec)

/-- ITS FALSE NEIGHBOUR: 'it returns false'. Refute it at one input. -/
def ucdRangesWrong : ChangeSpec := { name := "ucdRanges", fn := fun _ => fun
  | [d] => { results := [.lit (.bool false)], args := [d] }
  | _ => none }
def UcdRangesWrongFalsely : Prop := ucdRangesRow.holds Try.pinned (OpenSpec.ofChange ucdRangesWrong)

/-- 'seriflaw12.UcdLooks': WHATEVER THE INPUT: true; the input reads as it did. -/
def ucdLooksSpec : ChangeSpec := { name := "ucdLooks", fn := fun _ => fun
  | [d] => { results := [.lit (.bool true)], args := [d] }
  | _ => none }
def ucdLooksRow : OpenClaim := { program := "ytplnaannfnhhgab", sum := "50a87adb1d494e585bb7f90c05ddb22fd59cb46caf54692e3e0d1cfedbc31ab1", func := "serif/seriflaw12.UcdLooks", spec := "ucdLooks", unfollowed := true, recurses := true, apart := false }
def UcdLooksSaid : Prop := ucdLooksRow.holds Try.pinned (OpenSpec.ofChange ucdLooksSpec)

/-- ITS FALSE NEIGHBOUR: 'it returns false'. Refute it at one input. -/
def ucdLooksWrong : ChangeSpec := { name := "ucdLooks", fn := fun _ => fun
  | [d] => { results := [.lit (.bool false)], args := [d] }
  | _ => none }
def UcdLooksWrongFalsely : Prop := ucdLooksRow.holds Try.pinned (OpenSpec.ofChange ucdLooksWrong)

/-- 'seriflaw12.UcdPairs': WHATEVER THE INPUT: true; the input reads as it did. -/
def ucdPairsSpec : ChangeSpec := { name := "ucdPairs", fn := fun _ => fun
  | [d] => { results := [.lit (.bool true)], args := [d] }
  | _ => none }
def ucdPairsRow : OpenClaim := { program := "ytplnaannfnhhgab", sum := "50a87adb1d494e585bb7f90c05ddb22fd59cb46caf54692e3e0d1cfedbc31ab1", func := "serif/seriflaw12.UcdPairs", spec := "ucdPairs", unfollowed := true, recurses := true, apart := false }
def UcdPairsSaid : Prop := ucdPairsRow.holds Try.pinned (OpenSpec.ofChange ucdPairsSpec)

/-- ITS FALSE NEIGHBOUR: 'it returns false'. Refute it at one input. -/
def ucdPairsWrong : ChangeSpec := { name := "ucdPairs", fn := fun _ => fun
  | [d] => { results := [.lit (.bool false)], args := [d] }
  | _ => none }
def UcdPairsWrongFalsely : Prop := ucdPairsRow.holds Try.pinned (OpenSpec.ofChange ucdPairsWrong)

/-- 'seriflaw22.BlendOvers': WHATEVER THE INPUT: true; the input reads as it did. -/
def blendOversSpec : ChangeSpec := { name := "blendOvers", fn := fun _ => fun
  | [d] => { results := [.lit (.bool true)], args := [d] }
  | _ => none }
def blendOversRow : OpenClaim := { program := "ytplnaannfnhhgab", sum := "50a87adb1d494e585bb7f90c05ddb22fd59cb46caf54692e3e0d1cfedbc31ab1", func := "serif/seriflaw22.BlendOvers", spec := "blendOvers", inPlace := ["internal/bytealg.MakeNoZero"], apart := false }
def BlendOversSaid : Prop := blendOversRow.holds Try.pinned (OpenSpec.ofChange blendOversSpec)

/-- ITS FALSE NEIGHBOUR: 'it returns false'. Refute it at one input. -/
def blendOversWrong : ChangeSpec := { name := "blendOvers", fn := fun _ => fun
  | [d] => { results := [.lit (.bool false)], args := [d] }
  | _ => none }
def BlendOversWrongFalsely : Prop := blendOversRow.holds Try.pinned (OpenSpec.ofChange blendOversWrong)

/-- 'seriflaw22.BlendOutside': WHATEVER THE INPUT: true; the input reads as it did. -/
def blendOutsideSpec : ChangeSpec := { name := "blendOutside", fn := fun _ => fun
  | [d] => { results := [.lit (.bool true)], args := [d] }
  | _ => none }
def blendOutsideRow : OpenClaim := { program := "ytplnaannfnhhgab", sum := "50a87adb1d494e585bb7f90c05ddb22fd59cb46caf54692e3e0d1cfedbc31ab1", func := "serif/seriflaw22.BlendOutside", spec := "blendOutside", inPlace := ["internal/bytealg.MakeNoZero"], apart := false }
def BlendOutsideSaid : Prop := blendOutsideRow.holds Try.pinned (OpenSpec.ofChange blendOutsideSpec)

/-- ITS FALSE NEIGHBOUR: 'it returns false'. Refute it at one input. -/
def blendOutsideWrong : ChangeSpec := { name := "blendOutside", fn := fun _ => fun
  | [d] => { results := [.lit (.bool false)], args := [d] }
  | _ => none }
def BlendOutsideWrongFalsely : Prop := blendOutsideRow.holds Try.pinned (OpenSpec.ofChange blendOutsideWrong)

/-- 'seriflaw22.BlendApart': WHATEVER THE INPUT: true; the input reads as it did. -/
def blendApartSpec : ChangeSpec := { name := "blendApart", fn := fun _ => fun
  | [d1, d2, d3] => { results := [.lit (.bool true)], args := [d1, d2, d3] }
  | _ => none }
def blendApartRow : OpenClaim := { program := "ytplnaannfnhhgab", sum := "50a87adb1d494e585bb7f90c05ddb22fd59cb46caf54692e3e0d1cfedbc31ab1", func := "serif/seriflaw22.BlendApart", spec := "blendApart", inPlace := ["internal/bytealg.MakeNoZero"], apart := false }
def BlendApartSaid : Prop := blendApartRow.holds Try.pinned (OpenSpec.ofChange blendApartSpec)

/-- ITS FALSE NEIGHBOUR: 'it returns false'. Refute it at one input. -/
def blendApartWrong : ChangeSpec := { name := "blendApart", fn := fun _ => fun
  | [d1, d2, d3] => { results := [.lit (.bool false)], args := [d1, d2, d3] }
  | _ => none }
def BlendApartWrongFalsely : Prop := blendApartRow.holds Try.pinned (OpenSpec.ofChange blendApartWrong)

/-- 'seriflaw18.BreaksRules': WHATEVER THE INPUT: true; the input reads as it did. -/
def breaksRulesSpec : ChangeSpec := { name := "breaksRules", fn := fun _ => fun
  | [d] => { results := [.lit (.bool true)], args := [d] }
  | _ => none }
def breaksRulesRow : OpenClaim := { program := "ytplnaannfnhhgab", sum := "50a87adb1d494e585bb7f90c05ddb22fd59cb46caf54692e3e0d1cfedbc31ab1", func := "serif/seriflaw18.BreaksRules", spec := "breaksRules", unfollowed := true, recurses := true, apart := false }
def BreaksRulesSaid : Prop := breaksRulesRow.holds Try.pinned (OpenSpec.ofChange breaksRulesSpec)

/-- ITS FALSE NEIGHBOUR: 'it returns false'. Refute it at one input. -/
def breaksRulesWrong : ChangeSpec := { name := "breaksRules", fn := fun _ => fun
  | [d] => { results := [.lit (.bool false)], args := [d] }
  | _ => none }
def BreaksRulesWrongFalsely : Prop := breaksRulesRow.holds Try.pinned (OpenSpec.ofChange breaksRulesWrong)

/-- 'seriflaw18.BreaksBlanks': WHATEVER THE INPUT: true; the input reads as it did. -/
def breaksBlanksSpec : ChangeSpec := { name := "breaksBlanks", fn := fun _ => fun
  | [d] => { results := [.lit (.bool true)], args := [d] }
  | _ => none }
def breaksBlanksRow : OpenClaim := { program := "ytplnaannfnhhgab", sum := "50a87adb1d494e585bb7f90c05ddb22fd59cb46caf54692e3e0d1cfedbc31ab1", func := "serif/seriflaw18.BreaksBlanks", spec := "breaksBlanks", unfollowed := true, recurses := true, apart := false }
def BreaksBlanksSaid : Prop := breaksBlanksRow.holds Try.pinned (OpenSpec.ofChange breaksBlanksSpec)

/-- ITS FALSE NEIGHBOUR: 'it returns false'. Refute it at one input. -/
def breaksBlanksWrong : ChangeSpec := { name := "breaksBlanks", fn := fun _ => fun
  | [d] => { results := [.lit (.bool false)], args := [d] }
  | _ => none }
def BreaksBlanksWrongFalsely : Prop := breaksBlanksRow.holds Try.pinned (OpenSpec.ofChange breaksBlanksWrong)

/-- 'seriflaw18.BreaksParts': WHATEVER THE INPUT: true; the input reads as it did. -/
def breaksPartsSpec : ChangeSpec := { name := "breaksParts", fn := fun _ => fun
  | [d1, d2] => { results := [.lit (.bool true)], args := [d1, d2] }
  | _ => none }
def breaksPartsRow : OpenClaim := { program := "ytplnaannfnhhgab", sum := "50a87adb1d494e585bb7f90c05ddb22fd59cb46caf54692e3e0d1cfedbc31ab1", func := "serif/seriflaw18.BreaksParts", spec := "breaksParts", unfollowed := true, recurses := true, apart := false }
def BreaksPartsSaid : Prop := breaksPartsRow.holds Try.pinned (OpenSpec.ofChange breaksPartsSpec)

/-- ITS FALSE NEIGHBOUR: 'it returns false'. Refute it at one input. -/
def breaksPartsWrong : ChangeSpec := { name := "breaksParts", fn := fun _ => fun
  | [d1, d2] => { results := [.lit (.bool false)], args := [d1, d2] }
  | _ => none }
def BreaksPartsWrongFalsely : Prop := breaksPartsRow.holds Try.pinned (OpenSpec.ofChange breaksPartsWrong)

/-- 'seriflaw18.BreaksMust': WHATEVER THE INPUT: true; the input reads as it did. -/
def breaksMustSpec : ChangeSpec := { name := "breaksMust", fn := fun _ => fun
  | [d] => { results := [.lit (.bool true)], args := [d] }
  | _ => none }
def breaksMustRow : OpenClaim := { program := "ytplnaannfnhhgab", sum := "50a87adb1d494e585bb7f90c05ddb22fd59cb46caf54692e3e0d1cfedbc31ab1", func := "serif/seriflaw18.BreaksMust", spec := "breaksMust", unfollowed := true, recurses := true, apart := false }
def BreaksMustSaid : Prop := breaksMustRow.holds Try.pinned (OpenSpec.ofChange breaksMustSpec)

/-- ITS FALSE NEIGHBOUR: 'it returns false'. Refute it at one input. -/
def breaksMustWrong : ChangeSpec := { name := "breaksMust", fn := fun _ => fun
  | [d] => { results := [.lit (.bool false)], args := [d] }
  | _ => none }
def BreaksMustWrongFalsely : Prop := breaksMustRow.holds Try.pinned (OpenSpec.ofChange breaksMustWrong)

/-- 'seriflaw05.CmapNames': WHATEVER THE INPUT: true; the input reads as it did. -/
def cmapNamesSpec : ChangeSpec := { name := "cmapNames", fn := fun _ => fun
  | [] => { results := [.lit (.bool true)], args := [] }
  | _ => none }
def cmapNamesRow : OpenClaim := { program := "ytplnaannfnhhgab", sum := "50a87adb1d494e585bb7f90c05ddb22fd59cb46caf54692e3e0d1cfedbc31ab1", func := "serif/seriflaw05.CmapNames", spec := "cmapNames", unfollowed := true, recurses := true, apart := false }
def CmapNamesSaid : Prop := cmapNamesRow.holds Try.pinned (OpenSpec.ofChange cmapNamesSpec)

/-- ITS FALSE NEIGHBOUR: 'it returns false'. Refute it at one input. -/
def cmapNamesWrong : ChangeSpec := { name := "cmapNames", fn := fun _ => fun
  | [] => { results := [.lit (.bool false)], args := [] }
  | _ => none }
def CmapNamesWrongFalsely : Prop := cmapNamesRow.holds Try.pinned (OpenSpec.ofChange cmapNamesWrong)

/-- 'seriflaw05.CmapGroups': WHATEVER THE INPUT: true; the input reads as it did. -/
def cmapGroupsSpec : ChangeSpec := { name := "cmapGroups", fn := fun _ => fun
  | [d1, d2, d3] => { results := [.lit (.bool true)], args := [d1, d2, d3] }
  | _ => none }
def cmapGroupsRow : OpenClaim := { program := "ytplnaannfnhhgab", sum := "50a87adb1d494e585bb7f90c05ddb22fd59cb46caf54692e3e0d1cfedbc31ab1", func := "serif/seriflaw05.CmapGroups", spec := "cmapGroups", unfollowed := true, recurses := true, apart := false }
def CmapGroupsSaid : Prop := cmapGroupsRow.holds Try.pinned (OpenSpec.ofChange cmapGroupsSpec)

/-- ITS FALSE NEIGHBOUR: 'it returns false'. Refute it at one input. -/
def cmapGroupsWrong : ChangeSpec := { name := "cmapGroups", fn := fun _ => fun
  | [d1, d2, d3] => { results := [.lit (.bool false)], args := [d1, d2, d3] }
  | _ => none }
def CmapGroupsWrongFalsely : Prop := cmapGroupsRow.holds Try.pinned (OpenSpec.ofChange cmapGroupsWrong)

/- THE SECOND FORM. 'bulk': how many values and letters a reading holds, each counted each time it is reached (what is shared counts as often as it is met; a slice's spare places count too). A statement '..UptoSaid' is the law's where the arguments, and the package variables that the reading takes, are together of bulk at most 1048576: NARROWER than '..Said'. Prove '..Said' where nothing that the law and all that it calls make is longer than what came in: it says more and counts as full. Else prove '..UptoSaid'. A law counts once. -/
mutual
def uptoBulk {H : Type} : DataW H → Nat
  | .lit (.string bytes) => bytes.length + 1
  | .lit _ => 1
  | .nil => 1
  | .ptr d => uptoBulk d + 1
  | .slice elems spare => uptoBulkAll elems + uptoBulkAll spare + 1
  | .agg parts => uptoBulkAll parts + 1
  | .iface _ d => uptoBulk d + 1
  | .map entries => uptoBulkEntries entries + 1
  | .held _ => 1
def uptoBulkAll {H : Type} : List (DataW H) → Nat
  | [] => 0
  | d :: r => uptoBulk d + uptoBulkAll r
def uptoBulkEntries {H : Type} : List (Lit × DataW H) → Nat
  | [] => 0
  | x :: r => uptoBulkEntry x + uptoBulkEntries r
def uptoBulkEntry {H : Type} : Lit × DataW H → Nat
  | (.string bytes, d) => bytes.length + uptoBulk d + 1
  | (_, d) => uptoBulk d + 1
 end
def uptoSmall : (H : Type) → List (DataW H) → Bool := fun _ ds => decide (uptoBulkAll ds ≤ 1048576)
def OpenSpec.upto (s : _root_.Go.ChangeSpec) : _root_.Go.OpenSpec := { _root_.Go.OpenSpec.ofChange s with cond := some uptoSmall }

/-- 'seriflaw12.UcdRanges', WHERE WHAT IT READS IS OF BULK AT MOST 1048576: true; the input reads as it did. -/
def ucdRangesUptoRow : OpenClaim := { program := "ytplnaannfnhhgab", sum := "50a87adb1d494e585bb7f90c05ddb22fd59cb46caf54692e3e0d1cfedbc31ab1", func := "serif/seriflaw12.UcdRanges", spec := "ucdRanges", unfollowed := true, recurses := true, apart := false, narrowed := true }
def UcdRangesUptoSaid : Prop := ucdRangesUptoRow.holds Try.pinned (OpenSpec.upto ucdRangesSpec)

/-- 'seriflaw12.UcdLooks', WHERE WHAT IT READS IS OF BULK AT MOST 1048576: true; the input reads as it did. -/
def ucdLooksUptoRow : OpenClaim := { program := "ytplnaannfnhhgab", sum := "50a87adb1d494e585bb7f90c05ddb22fd59cb46caf54692e3e0d1cfedbc31ab1", func := "serif/seriflaw12.UcdLooks", spec := "ucdLooks", unfollowed := true, recurses := true, apart := false, narrowed := true }
def UcdLooksUptoSaid : Prop := ucdLooksUptoRow.holds Try.pinned (OpenSpec.upto ucdLooksSpec)

/-- 'seriflaw12.UcdPairs', WHERE WHAT IT READS IS OF BULK AT MOST 1048576: true; the input reads as it did. -/
def ucdPairsUptoRow : OpenClaim := { program := "ytplnaannfnhhgab", sum := "50a87adb1d494e585bb7f90c05ddb22fd59cb46caf54692e3e0d1cfedbc31ab1", func := "serif/seriflaw12.UcdPairs", spec := "ucdPairs", unfollowed := true, recurses := true, apart := false, narrowed := true }
def UcdPairsUptoSaid : Prop := ucdPairsUptoRow.holds Try.pinned (OpenSpec.upto ucdPairsSpec)

/-- 'seriflaw22.BlendOvers', WHERE WHAT IT READS IS OF BULK AT MOST 1048576: true; the input reads as it did. -/
def blendOversUptoRow : OpenClaim := { program := "ytplnaannfnhhgab", sum := "50a87adb1d494e585bb7f90c05ddb22fd59cb46caf54692e3e0d1cfedbc31ab1", func := "serif/seriflaw22.BlendOvers", spec := "blendOvers", inPlace := ["internal/bytealg.MakeNoZero"], apart := false, narrowed := true }
def BlendOversUptoSaid : Prop := blendOversUptoRow.holds Try.pinned (OpenSpec.upto blendOversSpec)

/-- 'seriflaw22.BlendOutside', WHERE WHAT IT READS IS OF BULK AT MOST 1048576: true; the input reads as it did. -/
def blendOutsideUptoRow : OpenClaim := { program := "ytplnaannfnhhgab", sum := "50a87adb1d494e585bb7f90c05ddb22fd59cb46caf54692e3e0d1cfedbc31ab1", func := "serif/seriflaw22.BlendOutside", spec := "blendOutside", inPlace := ["internal/bytealg.MakeNoZero"], apart := false, narrowed := true }
def BlendOutsideUptoSaid : Prop := blendOutsideUptoRow.holds Try.pinned (OpenSpec.upto blendOutsideSpec)

/-- 'seriflaw22.BlendApart', WHERE WHAT IT READS IS OF BULK AT MOST 1048576: true; the input reads as it did. -/
def blendApartUptoRow : OpenClaim := { program := "ytplnaannfnhhgab", sum := "50a87adb1d494e585bb7f90c05ddb22fd59cb46caf54692e3e0d1cfedbc31ab1", func := "serif/seriflaw22.BlendApart", spec := "blendApart", inPlace := ["internal/bytealg.MakeNoZero"], apart := false, narrowed := true }
def BlendApartUptoSaid : Prop := blendApartUptoRow.holds Try.pinned (OpenSpec.upto blendApartSpec)

/-- 'seriflaw18.BreaksRules', WHERE WHAT IT READS IS OF BULK AT MOST 1048576: true; the input reads as it did. -/
def breaksRulesUptoRow : OpenClaim := { program := "ytplnaannfnhhgab", sum := "50a87adb1d494e585bb7f90c05ddb22fd59cb46caf54692e3e0d1cfedbc31ab1", func := "serif/seriflaw18.BreaksRules", spec := "breaksRules", unfollowed := true, recurses := true, apart := false, narrowed := true }
def BreaksRulesUptoSaid : Prop := breaksRulesUptoRow.holds Try.pinned (OpenSpec.upto breaksRulesSpec)

/-- 'seriflaw18.BreaksBlanks', WHERE WHAT IT READS IS OF BULK AT MOST 1048576: true; the input reads as it did. -/
def breaksBlanksUptoRow : OpenClaim := { program := "ytplnaannfnhhgab", sum := "50a87adb1d494e585bb7f90c05ddb22fd59cb46caf54692e3e0d1cfedbc31ab1", func := "serif/seriflaw18.BreaksBlanks", spec := "breaksBlanks", unfollowed := true, recurses := true, apart := false, narrowed := true }
def BreaksBlanksUptoSaid : Prop := breaksBlanksUptoRow.holds Try.pinned (OpenSpec.upto breaksBlanksSpec)

/-- 'seriflaw18.BreaksParts', WHERE WHAT IT READS IS OF BULK AT MOST 1048576: true; the input reads as it did. -/
def breaksPartsUptoRow : OpenClaim := { program := "ytplnaannfnhhgab", sum := "50a87adb1d494e585bb7f90c05ddb22fd59cb46caf54692e3e0d1cfedbc31ab1", func := "serif/seriflaw18.BreaksParts", spec := "breaksParts", unfollowed := true, recurses := true, apart := false, narrowed := true }
def BreaksPartsUptoSaid : Prop := breaksPartsUptoRow.holds Try.pinned (OpenSpec.upto breaksPartsSpec)

/-- 'seriflaw18.BreaksMust', WHERE WHAT IT READS IS OF BULK AT MOST 1048576: true; the input reads as it did. -/
def breaksMustUptoRow : OpenClaim := { program := "ytplnaannfnhhgab", sum := "50a87adb1d494e585bb7f90c05ddb22fd59cb46caf54692e3e0d1cfedbc31ab1", func := "serif/seriflaw18.BreaksMust", spec := "breaksMust", unfollowed := true, recurses := true, apart := false, narrowed := true }
def BreaksMustUptoSaid : Prop := breaksMustUptoRow.holds Try.pinned (OpenSpec.upto breaksMustSpec)

/-- 'seriflaw05.CmapNames', WHERE WHAT IT READS IS OF BULK AT MOST 1048576: true; the input reads as it did. -/
def cmapNamesUptoRow : OpenClaim := { program := "ytplnaannfnhhgab", sum := "50a87adb1d494e585bb7f90c05ddb22fd59cb46caf54692e3e0d1cfedbc31ab1", func := "serif/seriflaw05.CmapNames", spec := "cmapNames", unfollowed := true, recurses := true, apart := false, narrowed := true }
def CmapNamesUptoSaid : Prop := cmapNamesUptoRow.holds Try.pinned (OpenSpec.upto cmapNamesSpec)

/-- 'seriflaw05.CmapGroups', WHERE WHAT IT READS IS OF BULK AT MOST 1048576: true; the input reads as it did. -/
def cmapGroupsUptoRow : OpenClaim := { program := "ytplnaannfnhhgab", sum := "50a87adb1d494e585bb7f90c05ddb22fd59cb46caf54692e3e0d1cfedbc31ab1", func := "serif/seriflaw05.CmapGroups", spec := "cmapGroups", unfollowed := true, recurses := true, apart := false, narrowed := true }
def CmapGroupsUptoSaid : Prop := cmapGroupsUptoRow.holds Try.pinned (OpenSpec.upto cmapGroupsSpec)

end Rows
end Go.Proofs.Ytplnaannfnhhgab
