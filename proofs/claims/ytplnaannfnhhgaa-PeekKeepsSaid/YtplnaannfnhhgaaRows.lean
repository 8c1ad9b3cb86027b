/-
  No cell of these rows narrows 'for every input' (looked for: loops, veiled, ifaces, maps, wideKeys, modest, calm, conditions, laid).
  DERIVED. THE GIVEN ROWS OF THIS SEAT. 12 by the template 'for every input the law returns true; each argument reads behind the call as it read before'; 0 by the template 'total and deterministic' (their statements: YtplnaannfnhhgaaTotals.lean).
  GIVEN WITH THE SEED: the statements are not yours to turn. If you find one false, say at which input.
  Laid BY PROGRAM, IN A SANDBOX (cutbox-rows.mjs): the forced cells as the released guide's own fill.sh prints them over the translation 807d3e12b1b54f7f… (all of the seat's roots in one cut). By AI agents, Wed Nov 11 2026. No macro, syntax, notation, axiom, sorry.
-/
import Derived.Test.YtplnaannfnhhgaaChecked
import GoSem.Claim
import GoSem.ClaimJoined
import GoSem.ClaimMapViews
import Derived.JoinedTies
import Derived.KernelRfl
namespace Go.Proofs.Ytplnaannfnhhgaa
/- THE CELL 'sum', in the pinned program and in every row, IS THE sha256 OF THE DUMP (.gsa) THAT YtplnaannfnhhgaaProg.lean LOADS. Nothing in Lean hashes anything: it is a label: what it is worth is what the hold of that sum in a sandbox is worth. -/
noncomputable def Try.pinned : Pinned := { name := "ytplnaannfnhhgaa", sum := "807d3e12b1b54f7fa8feedee46f10e46179703f9f2b1324249e9d40d020b41b0", checked := Try.checked }
namespace Rows
def none {H : Type} : Left H := { results := [], args := [] }

/-- 'seriflaw11.UtfDecodes': WHATEVER THE INPUT: true; the input reads as it did. -/
def utfDecodesSpec : ChangeSpec := { name := "utfDecodes", fn := fun _ => fun
  | [d] => { results := [.lit (.bool true)], args := [d] }
  | _ => none }
def utfDecodesRow : OpenClaim := { program := "ytplnaannfnhhgaa", sum := "807d3e12b1b54f7fa8feedee46f10e46179703f9f2b1324249e9d40d020b41b0", func := "serif/seriflaw11.UtfDecodes", spec := "utfDecodes", apart := false }
def UtfDecodesSaid : Prop := utfDecodesRow.holds Try.pinned (OpenSpec.ofChange utfDecodesSpec)

/-- ITS FALSE NEIGHBOUR: 'it returns false'. Refute it at one input. -/
def utfDecodesWrong : ChangeSpec := { name := "utfDecodes", fn := fun _ => fun
  | [d] => { results := [.lit (.bool false)], args := [d] }
  | _ => none }
def UtfDecodesWrongFalsely : Prop := utfDecodesRow.holds Try.pinned (OpenSpec.ofChange utfDecodesWrong)

/-- 'seriflaw02.PeekNumbers': WHATEVER THE INPUT: true; the input reads as it did. -/
def peekNumbersSpec : ChangeSpec := { name := "peekNumbers", fn := fun _ => fun
  | [d1, d2] => { results := [.lit (.bool true)], args := [d1, d2] }
  | _ => none }
def peekNumbersRow : OpenClaim := { program := "ytplnaannfnhhgaa", sum := "807d3e12b1b54f7fa8feedee46f10e46179703f9f2b1324249e9d40d020b41b0", func := "serif/seriflaw02.PeekNumbers", spec := "peekNumbers", apart := false }
def PeekNumbersSaid : Prop := peekNumbersRow.holds Try.pinned (OpenSpec.ofChange peekNumbersSpec)

/-- ITS FALSE NEIGHBOUR: 'it returns false'. Refute it at one input. -/
def peekNumbersWrong : ChangeSpec := { name := "peekNumbers", fn := fun _ => fun
  | [d1, d2] => { results := [.lit (.bool false)], args := [d1, d2] }
  | _ => none }
def PeekNumbersWrongFalsely : Prop := peekNumbersRow.holds Try.pinned (OpenSpec.ofChange peekNumbersWrong)

/-- 'seriflaw02.PeekKeeps': WHATEVER THE INPUT: true; the input reads as it did. -/
def peekKeepsSpec : ChangeSpec := { name := "peekKeeps", fn := fun _ => fun
  | [d] => { results := [.lit (.bool true)], args := [d] }
  | _ => none }
def peekKeepsRow : OpenClaim := { program := "ytplnaannfnhhgaa", sum := "807d3e12b1b54f7fa8feedee46f10e46179703f9f2b1324249e9d40d020b41b0", func := "serif/seriflaw02.PeekKeeps", spec := "peekKeeps", apart := false }
def PeekKeepsSaid : Prop := peekKeepsRow.holds Try.pinned (OpenSpec.ofChange peekKeepsSpec)

/-- ITS FALSE NEIGHBOUR: 'it returns false'. Refute it at one input. -/
def peekKeepsWrong : ChangeSpec := { name := "peekKeeps", fn := fun _ => fun
  | [d] => { results := [.lit (.bool false)], args := [d] }
  | _ => none }
def PeekKeepsWrongFalsely : Prop := peekKeepsRow.holds Try.pinned (OpenSpec.ofChange peekKeepsWrong)

/-- 'seriflaw11.UtfEncodes': WHATEVER THE INPUT: true; the input reads as it did. -/
def utfEncodesSpec : ChangeSpec := { name := "utfEncodes", fn := fun _ => fun
  | [d] => { results := [.lit (.bool true)], args := [d] }
  | _ => none }
def utfEncodesRow : OpenClaim := { program := "ytplnaannfnhhgaa", sum := "807d3e12b1b54f7fa8feedee46f10e46179703f9f2b1324249e9d40d020b41b0", func := "serif/seriflaw11.UtfEncodes", spec := "utfEncodes", apart := false }
def UtfEncodesSaid : Prop := utfEncodesRow.holds Try.pinned (OpenSpec.ofChange utfEncodesSpec)

/-- ITS FALSE NEIGHBOUR: 'it returns false'. Refute it at one input. -/
def utfEncodesWrong : ChangeSpec := { name := "utfEncodes", fn := fun _ => fun
  | [d] => { results := [.lit (.bool false)], args := [d] }
  | _ => none }
def UtfEncodesWrongFalsely : Prop := utfEncodesRow.holds Try.pinned (OpenSpec.ofChange utfEncodesWrong)

/-- 'seriflaw11.UtfTotal': WHATEVER THE INPUT: true; the input reads as it did. -/
def utfTotalSpec : ChangeSpec := { name := "utfTotal", fn := fun _ => fun
  | [d] => { results := [.lit (.bool true)], args := [d] }
  | _ => none }
def utfTotalRow : OpenClaim := { program := "ytplnaannfnhhgaa", sum := "807d3e12b1b54f7fa8feedee46f10e46179703f9f2b1324249e9d40d020b41b0", func := "serif/seriflaw11.UtfTotal", spec := "utfTotal", apart := false }
def UtfTotalSaid : Prop := utfTotalRow.holds Try.pinned (OpenSpec.ofChange utfTotalSpec)

/-- ITS FALSE NEIGHBOUR: 'it returns false'. Refute it at one input. -/
def utfTotalWrong : ChangeSpec := { name := "utfTotal", fn := fun _ => fun
  | [d] => { results := [.lit (.bool false)], args := [d] }
  | _ => none }
def UtfTotalWrongFalsely : Prop := utfTotalRow.holds Try.pinned (OpenSpec.ofChange utfTotalWrong)

/-- 'seriflaw11.UtfJoins': WHATEVER THE INPUT: true; the input reads as it did. -/
def utfJoinsSpec : ChangeSpec := { name := "utfJoins", fn := fun _ => fun
  | [d1, d2] => { results := [.lit (.bool true)], args := [d1, d2] }
  | _ => none }
def utfJoinsRow : OpenClaim := { program := "ytplnaannfnhhgaa", sum := "807d3e12b1b54f7fa8feedee46f10e46179703f9f2b1324249e9d40d020b41b0", func := "serif/seriflaw11.UtfJoins", spec := "utfJoins", apart := false }
def UtfJoinsSaid : Prop := utfJoinsRow.holds Try.pinned (OpenSpec.ofChange utfJoinsSpec)

/-- ITS FALSE NEIGHBOUR: 'it returns false'. Refute it at one input. -/
def utfJoinsWrong : ChangeSpec := { name := "utfJoins", fn := fun _ => fun
  | [d1, d2] => { results := [.lit (.bool false)], args := [d1, d2] }
  | _ => none }
def UtfJoinsWrongFalsely : Prop := utfJoinsRow.holds Try.pinned (OpenSpec.ofChange utfJoinsWrong)

/-- 'seriflaw23.LruTruth': WHATEVER THE INPUT: true; the input reads as it did. -/
def lruTruthSpec : ChangeSpec := { name := "lruTruth", fn := fun _ => fun
  | [d1, d2] => { results := [.lit (.bool true)], args := [d1, d2] }
  | _ => none }
def lruTruthRow : OpenClaim := { program := "ytplnaannfnhhgaa", sum := "807d3e12b1b54f7fa8feedee46f10e46179703f9f2b1324249e9d40d020b41b0", func := "serif/seriflaw23.LruTruth", spec := "lruTruth", apart := false }
def LruTruthSaid : Prop := lruTruthRow.holds Try.pinned (OpenSpec.ofChange lruTruthSpec)

/-- ITS FALSE NEIGHBOUR: 'it returns false'. Refute it at one input. -/
def lruTruthWrong : ChangeSpec := { name := "lruTruth", fn := fun _ => fun
  | [d1, d2] => { results := [.lit (.bool false)], args := [d1, d2] }
  | _ => none }
def LruTruthWrongFalsely : Prop := lruTruthRow.holds Try.pinned (OpenSpec.ofChange lruTruthWrong)

/-- 'seriflaw23.LruKeeps': WHATEVER THE INPUT: true; the input reads as it did. -/
def lruKeepsSpec : ChangeSpec := { name := "lruKeeps", fn := fun _ => fun
  | [d] => { results := [.lit (.bool true)], args := [d] }
  | _ => none }
def lruKeepsRow : OpenClaim := { program := "ytplnaannfnhhgaa", sum := "807d3e12b1b54f7fa8feedee46f10e46179703f9f2b1324249e9d40d020b41b0", func := "serif/seriflaw23.LruKeeps", spec := "lruKeeps", apart := false }
def LruKeepsSaid : Prop := lruKeepsRow.holds Try.pinned (OpenSpec.ofChange lruKeepsSpec)

/-- ITS FALSE NEIGHBOUR: 'it returns false'. Refute it at one input. -/
def lruKeepsWrong : ChangeSpec := { name := "lruKeeps", fn := fun _ => fun
  | [d] => { results := [.lit (.bool false)], args := [d] }
  | _ => none }
def LruKeepsWrongFalsely : Prop := lruKeepsRow.holds Try.pinned (OpenSpec.ofChange lruKeepsWrong)

/-- 'seriflaw23.LruRuns': WHATEVER THE INPUT: true; the input reads as it did. -/
def lruRunsSpec : ChangeSpec := { name := "lruRuns", fn := fun _ => fun
  | [d1, d2, d3] => { results := [.lit (.bool true)], args := [d1, d2, d3] }
  | _ => none }
def lruRunsRow : OpenClaim := { program := "ytplnaannfnhhgaa", sum := "807d3e12b1b54f7fa8feedee46f10e46179703f9f2b1324249e9d40d020b41b0", func := "serif/seriflaw23.LruRuns", spec := "lruRuns", apart := false }
def LruRunsSaid : Prop := lruRunsRow.holds Try.pinned (OpenSpec.ofChange lruRunsSpec)

/-- ITS FALSE NEIGHBOUR: 'it returns false'. Refute it at one input. -/
def lruRunsWrong : ChangeSpec := { name := "lruRuns", fn := fun _ => fun
  | [d1, d2, d3] => { results := [.lit (.bool false)], args := [d1, d2, d3] }
  | _ => none }
def LruRunsWrongFalsely : Prop := lruRunsRow.holds Try.pinned (OpenSpec.ofChange lruRunsWrong)

/-- 'seriflaw22.BlendPages': WHATEVER THE INPUT: true; the input reads as it did. -/
def blendPagesSpec : ChangeSpec := { name := "blendPages", fn := fun _ => fun
  | [d1, d2, d3] => { results := [.lit (.bool true)], args := [d1, d2, d3] }
  | _ => none }
def blendPagesRow : OpenClaim := { program := "ytplnaannfnhhgaa", sum := "807d3e12b1b54f7fa8feedee46f10e46179703f9f2b1324249e9d40d020b41b0", func := "serif/seriflaw22.BlendPages", spec := "blendPages", inPlace := ["internal/bytealg.MakeNoZero"], apart := false }
def BlendPagesSaid : Prop := blendPagesRow.holds Try.pinned (OpenSpec.ofChange blendPagesSpec)

/-- ITS FALSE NEIGHBOUR: 'it returns false'. Refute it at one input. -/
def blendPagesWrong : ChangeSpec := { name := "blendPages", fn := fun _ => fun
  | [d1, d2, d3] => { results := [.lit (.bool false)], args := [d1, d2, d3] }
  | _ => none }
def BlendPagesWrongFalsely : Prop := blendPagesRow.holds Try.pinned (OpenSpec.ofChange blendPagesWrong)

/-- 'seriflaw22.BlendMixes': WHATEVER THE INPUT: true; the input reads as it did. -/
def blendMixesSpec : ChangeSpec := { name := "blendMixes", fn := fun _ => fun
  | [d1, d2, d3] => { results := [.lit (.bool true)], args := [d1, d2, d3] }
  | _ => none }
def blendMixesRow : OpenClaim := { program := "ytplnaannfnhhgaa", sum := "807d3e12b1b54f7fa8feedee46f10e46179703f9f2b1324249e9d40d020b41b0", func := "serif/seriflaw22.BlendMixes", spec := "blendMixes", inPlace := ["internal/bytealg.MakeNoZero"], apart := false }
def BlendMixesSaid : Prop := blendMixesRow.holds Try.pinned (OpenSpec.ofChange blendMixesSpec)

/-- ITS FALSE NEIGHBOUR: 'it returns false'. Refute it at one input. -/
def blendMixesWrong : ChangeSpec := { name := "blendMixes", fn := fun _ => fun
  | [d1, d2, d3] => { results := [.lit (.bool false)], args := [d1, d2, d3] }
  | _ => none }
def BlendMixesWrongFalsely : Prop := blendMixesRow.holds Try.pinned (OpenSpec.ofChange blendMixesWrong)

/-- 'seriflaw12.UcdNames': WHATEVER THE INPUT: true; the input reads as it did. -/
def ucdNamesSpec : ChangeSpec := { name := "ucdNames", fn := fun _ => fun
  | [] => { results := [.lit (.bool true)], args := [] }
  | _ => none }
def ucdNamesRow : OpenClaim := { program := "ytplnaannfnhhgaa", sum := "807d3e12b1b54f7fa8feedee46f10e46179703f9f2b1324249e9d40d020b41b0", func := "serif/seriflaw12.UcdNames", spec := "ucdNames", unfollowed := true, recurses := true, apart := false }
def UcdNamesSaid : Prop := ucdNamesRow.holds Try.pinned (OpenSpec.ofChange ucdNamesSpec)

/-- ITS FALSE NEIGHBOUR: 'it returns false'. Refute it at one input. -/
def ucdNamesWrong : ChangeSpec := { name := "ucdNames", fn := fun _ => fun
  | [] => { results := [.lit (.bool false)], args := [] }
  | _ => none }
def UcdNamesWrongFalsely : Prop := ucdNamesRow.holds Try.pinned (OpenSpec.ofChange ucdNamesWrong)

/- THE SECOND FORM. 'bulk': how many values and letters a reading holds, each counted each time it is reached (what is shared counts as often as it is met; a slice's spare places count too). A statement '..UptoSaid' is the law's where the arguments, and the package variables that the reading takes, are together of bulk at most 1048576: NARROWER than '..Said'. Prove '..Said' where nothing that the law and all that it calls make is longer than what came in: it says more and counts as full. Else prove '..UptoSaid'. A law counts once. -/
mutual
def uptoBulk {H : Type} : DataW H → Nat
  | .lit (.string bytes) => bytes.length + 1
  | .lit _ => 1
  | .nil => 1
  | .ptr d => uptoBulk d + 1
  | .slice elems spare => uptoBulkAll elems + uptoBulkAll spare + 1
  | .agg parts => uptoBulkAll parts + 1
  | .iface _ d => uptoBulk d + 1
  | .map entries => uptoBulkEntries entries + 1
  | .held _ => 1
def uptoBulkAll {H : Type} : List (DataW H) → Nat
  | [] => 0
  | d :: r => uptoBulk d + uptoBulkAll r
def uptoBulkEntries {H : Type} : List (Lit × DataW H) → Nat
  | [] => 0
  | x :: r => uptoBulkEntry x + uptoBulkEntries r
def uptoBulkEntry {H : Type} : Lit × DataW H → Nat
  | (.string bytes, d) => bytes.length + uptoBulk d + 1
  | (_, d) => uptoBulk d + 1
 end
def uptoSmall : (H : Type) → List (DataW H) → Bool := fun _ ds => decide (uptoBulkAll ds ≤ 1048576)
def OpenSpec.upto (s : _root_.Go.ChangeSpec) : _root_.Go.OpenSpec := { _root_.Go.OpenSpec.ofChange s with cond := some uptoSmall }

/-- 'seriflaw11.UtfDecodes', WHERE WHAT IT READS IS OF BULK AT MOST 1048576: true; the input reads as it did. -/
def utfDecodesUptoRow : OpenClaim := { program := "ytplnaannfnhhgaa", sum := "807d3e12b1b54f7fa8feedee46f10e46179703f9f2b1324249e9d40d020b41b0", func := "serif/seriflaw11.UtfDecodes", spec := "utfDecodes", apart := false, narrowed := true }
def UtfDecodesUptoSaid : Prop := utfDecodesUptoRow.holds Try.pinned (OpenSpec.upto utfDecodesSpec)

/-- 'seriflaw02.PeekNumbers', WHERE WHAT IT READS IS OF BULK AT MOST 1048576: true; the input reads as it did. -/
def peekNumbersUptoRow : OpenClaim := { program := "ytplnaannfnhhgaa", sum := "807d3e12b1b54f7fa8feedee46f10e46179703f9f2b1324249e9d40d020b41b0", func := "serif/seriflaw02.PeekNumbers", spec := "peekNumbers", apart := false, narrowed := true }
def PeekNumbersUptoSaid : Prop := peekNumbersUptoRow.holds Try.pinned (OpenSpec.upto peekNumbersSpec)

/-- 'seriflaw02.PeekKeeps', WHERE WHAT IT READS IS OF BULK AT MOST 1048576: true; the input reads as it did. -/
def peekKeepsUptoRow : OpenClaim := { program := "ytplnaannfnhhgaa", sum := "807d3e12b1b54f7fa8feedee46f10e46179703f9f2b1324249e9d40d020b41b0", func := "serif/seriflaw02.PeekKeeps", spec := "peekKeeps", apart := false, narrowed := true }
def PeekKeepsUptoSaid : Prop := peekKeepsUptoRow.holds Try.pinned (OpenSpec.upto peekKeepsSpec)

/-- 'seriflaw11.UtfEncodes', WHERE WHAT IT READS IS OF BULK AT MOST 1048576: true; the input reads as it did. -/
def utfEncodesUptoRow : OpenClaim := { program := "ytplnaannfnhhgaa", sum := "807d3e12b1b54f7fa8feedee46f10e46179703f9f2b1324249e9d40d020b41b0", func := "serif/seriflaw11.UtfEncodes", spec := "utfEncodes", apart := false, narrowed := true }
def UtfEncodesUptoSaid : Prop := utfEncodesUptoRow.holds Try.pinned (OpenSpec.upto utfEncodesSpec)

/-- 'seriflaw11.UtfTotal', WHERE WHAT IT READS IS OF BULK AT MOST 1048576: true; the input reads as it did. -/
def utfTotalUptoRow : OpenClaim := { program := "ytplnaannfnhhgaa", sum := "807d3e12b1b54f7fa8feedee46f10e46179703f9f2b1324249e9d40d020b41b0", func := "serif/seriflaw11.UtfTotal", spec := "utfTotal", apart := false, narrowed := true }
def UtfTotalUptoSaid : Prop := utfTotalUptoRow.holds Try.pinned (OpenSpec.upto utfTotalSpec)

/-- 'seriflaw11.UtfJoins', WHERE WHAT IT READS IS OF BULK AT MOST 1048576: true; the input reads as it did. -/
def utfJoinsUptoRow : OpenClaim := { program := "ytplnaannfnhhgaa", sum := "807d3e12b1b54f7fa8feedee46f10e46179703f9f2b1324249e9d40d020b41b0", func := "serif/seriflaw11.UtfJoins", spec := "utfJoins", apart := false, narrowed := true }
def UtfJoinsUptoSaid : Prop := utfJoinsUptoRow.holds Try.pinned (OpenSpec.upto utfJoinsSpec)

/-- 'seriflaw23.LruTruth', WHERE WHAT IT READS IS OF BULK AT MOST 1048576: true; the input reads as it did. -/
def lruTruthUptoRow : OpenClaim := { program := "ytplnaannfnhhgaa", sum := "807d3e12b1b54f7fa8feedee46f10e46179703f9f2b1324249e9d40d020b41b0", func := "serif/seriflaw23.LruTruth", spec := "lruTruth", apart := false, narrowed := true }
def LruTruthUptoSaid : Prop := lruTruthUptoRow.holds Try.pinned (OpenSpec.upto lruTruthSpec)

/-- 'seriflaw23.LruKeeps', WHERE WHAT IT READS IS OF BULK AT MOST 1048576: true; the input reads as it did. -/
def lruKeepsUptoRow : OpenClaim := { program := "ytplnaannfnhhgaa", sum := "807d3e12b1b54f7fa8feedee46f10e46179703f9f2b1324249e9d40d020b41b0", func := "serif/seriflaw23.LruKeeps", spec := "lruKeeps", apart := false, narrowed := true }
def LruKeepsUptoSaid : Prop := lruKeepsUptoRow.holds Try.pinned (OpenSpec.upto lruKeepsSpec)

/-- 'seriflaw23.LruRuns', WHERE WHAT IT READS IS OF BULK AT MOST 1048576: true; the input reads as it did. -/
def lruRunsUptoRow : OpenClaim := { program := "ytplnaannfnhhgaa", sum := "807d3e12b1b54f7fa8feedee46f10e46179703f9f2b1324249e9d40d020b41b0", func := "serif/seriflaw23.LruRuns", spec := "lruRuns", apart := false, narrowed := true }
def LruRunsUptoSaid : Prop := lruRunsUptoRow.holds Try.pinned (OpenSpec.upto lruRunsSpec)

/-- 'seriflaw22.BlendPages', WHERE WHAT IT READS IS OF BULK AT MOST 1048576: true; the input reads as it did. -/
def blendPagesUptoRow : OpenClaim := { program := "ytplnaannfnhhgaa", sum := "807d3e12b1b54f7fa8feedee46f10e46179703f9f2b1324249e9d40d020b41b0", func := "serif/seriflaw22.BlendPages", spec := "blendPages", inPlace := ["internal/bytealg.MakeNoZero"], apart := false, narrowed := true }
def BlendPagesUptoSaid : Prop := blendPagesUptoRow.holds Try.pinned (OpenSpec.upto blendPagesSpec)

/-- 'seriflaw22.BlendMixes', WHERE WHAT IT READS IS OF BULK AT MOST 1048576: true; the input reads as it did. -/
def blendMixesUptoRow : OpenClaim := { program := "ytplnaannfnhhgaa", sum := "807d3e12b1b54f7fa8feedee46f10e46179703f9f2b1324249e9d40d020b41b0", func := "serif/seriflaw22.BlendMixes", spec := "blendMixes", inPlace := ["internal/bytealg.MakeNoZero"], apart := false, narrowed := true }
def BlendMixesUptoSaid : Prop := blendMixesUptoRow.holds Try.pinned (OpenSpec.upto blendMixesSpec)

/-- 'seriflaw12.UcdNames', WHERE WHAT IT READS IS OF BULK AT MOST 1048576: true; the input reads as it did. -/
def ucdNamesUptoRow : OpenClaim := { program := "ytplnaannfnhhgaa", sum := "807d3e12b1b54f7fa8feedee46f10e46179703f9f2b1324249e9d40d020b41b0", func := "serif/seriflaw12.UcdNames", spec := "ucdNames", unfollowed := true, recurses := true, apart := false, narrowed := true }
def UcdNamesUptoSaid : Prop := ucdNamesUptoRow.holds Try.pinned (OpenSpec.upto ucdNamesSpec)

end Rows
end Go.Proofs.Ytplnaannfnhhgaa
