/-
  No cell of these rows narrows 'for every input' (looked for: loops, veiled, ifaces, maps, wideKeys, modest, calm, conditions, laid).
  DERIVED. THE GIVEN ROWS OF THIS SEAT. 6 by the template 'for every input the law returns true; each argument reads behind the call as it read before'; 0 by the template 'total and deterministic' (their statements: YtebmfbfmdbimdaaTotals.lean).
  GIVEN WITH THE SEED: the statements are not yours to turn. If you find one false, say at which input.
  Laid BY PROGRAM, IN A SANDBOX (cutbox-rows.mjs): the forced cells as the released guide's own fill.sh prints them over the translation 7b334d4ad192822c… (all of the seat's roots in one cut). By AI agents, Wed Nov 11 2026. No macro, syntax, notation, axiom, sorry.
-/
import Derived.Test.YtebmfbfmdbimdaaChecked
import GoSem.Claim
import GoSem.ClaimJoined
import GoSem.ClaimMapViews
import Derived.JoinedTies
import Derived.KernelRfl
namespace Go.Proofs.Ytebmfbfmdbimdaa
/- THE CELL 'sum', in the pinned program and in every row, IS THE sha256 OF THE DUMP (.gsa) THAT YtebmfbfmdbimdaaProg.lean LOADS. Nothing in Lean hashes anything: it is a label: what it is worth is what the hold of that sum in a sandbox is worth. -/
noncomputable def Try.pinned : Pinned := { name := "ytebmfbfmdbimdaa", sum := "7b334d4ad192822c5db2e1dc9798e9c035d772d9dfbed8e63c833942744e2d79", checked := Try.checked }
namespace Rows
def none {H : Type} : Left H := { results := [], args := [] }

/-- 'seriflaw23.LruTruth': WHATEVER THE INPUT: true; the input reads as it did. -/
def lruTruthSpec : ChangeSpec := { name := "lruTruth", fn := fun _ => fun
  | [d1, d2] => { results := [.lit (.bool true)], args := [d1, d2] }
  | _ => none }
def lruTruthRow : OpenClaim := { program := "ytebmfbfmdbimdaa", sum := "7b334d4ad192822c5db2e1dc9798e9c035d772d9dfbed8e63c833942744e2d79", func := "serif/seriflaw23.LruTruth", spec := "lruTruth", apart := false }
def LruTruthSaid : Prop := lruTruthRow.holds Try.pinned (OpenSpec.ofChange lruTruthSpec)

/-- ITS FALSE NEIGHBOUR: 'it returns false'. Refute it at one input. -/
def lruTruthWrong : ChangeSpec := { name := "lruTruth", fn := fun _ => fun
  | [d1, d2] => { results := [.lit (.bool false)], args := [d1, d2] }
  | _ => none }
def LruTruthWrongFalsely : Prop := lruTruthRow.holds Try.pinned (OpenSpec.ofChange lruTruthWrong)

/-- 'seriflaw23.LruKeeps': WHATEVER THE INPUT: true; the input reads as it did. -/
def lruKeepsSpec : ChangeSpec := { name := "lruKeeps", fn := fun _ => fun
  | [d] => { results := [.lit (.bool true)], args := [d] }
  | _ => none }
def lruKeepsRow : OpenClaim := { program := "ytebmfbfmdbimdaa", sum := "7b334d4ad192822c5db2e1dc9798e9c035d772d9dfbed8e63c833942744e2d79", func := "serif/seriflaw23.LruKeeps", spec := "lruKeeps", apart := false }
def LruKeepsSaid : Prop := lruKeepsRow.holds Try.pinned (OpenSpec.ofChange lruKeepsSpec)

/-- ITS FALSE NEIGHBOUR: 'it returns false'. Refute it at one input. -/
def lruKeepsWrong : ChangeSpec := { name := "lruKeeps", fn := fun _ => fun
  | [d] => { results := [.lit (.bool false)], args := [d] }
  | _ => none }
def LruKeepsWrongFalsely : Prop := lruKeepsRow.holds Try.pinned (OpenSpec.ofChange lruKeepsWrong)

/-- 'seriflaw23.LruRuns': WHATEVER THE INPUT: true; the input reads as it did. -/
def lruRunsSpec : ChangeSpec := { name := "lruRuns", fn := fun _ => fun
  | [d1, d2, d3] => { results := [.lit (.bool true)], args := [d1, d2, d3] }
  | _ => none }
def lruRunsRow : OpenClaim := { program := "ytebmfbfmdbimdaa", sum := "7b334d4ad192822c5db2e1dc9798e9c035d772d9dfbed8e63c833942744e2d79", func := "serif/seriflaw23.LruRuns", spec := "lruRuns", apart := false }
def LruRunsSaid : Prop := lruRunsRow.holds Try.pinned (OpenSpec.ofChange lruRunsSpec)

/-- ITS FALSE NEIGHBOUR: 'it returns false'. Refute it at one input. -/
def lruRunsWrong : ChangeSpec := { name := "lruRuns", fn := fun _ => fun
  | [d1, d2, d3] => { results := [.lit (.bool false)], args := [d1, d2, d3] }
  | _ => none }
def LruRunsWrongFalsely : Prop := lruRunsRow.holds Try.pinned (OpenSpec.ofChange lruRunsWrong)

/-- 'seriflaw05.CmapNames': WHATEVER THE INPUT: true; the input reads as it did. -/
def cmapNamesSpec : ChangeSpec := { name := "cmapNames", fn := fun _ => fun
  | [] => { results := [.lit (.bool true)], args := [] }
  | _ => none }
def cmapNamesRow : OpenClaim := { program := "ytebmfbfmdbimdaa", sum := "7b334d4ad192822c5db2e1dc9798e9c035d772d9dfbed8e63c833942744e2d79", func := "serif/seriflaw05.CmapNames", spec := "cmapNames", unfollowed := true, recurses := true, apart := false }
def CmapNamesSaid : Prop := cmapNamesRow.holds Try.pinned (OpenSpec.ofChange cmapNamesSpec)

/-- ITS FALSE NEIGHBOUR: 'it returns false'. Refute it at one input. -/
def cmapNamesWrong : ChangeSpec := { name := "cmapNames", fn := fun _ => fun
  | [] => { results := [.lit (.bool false)], args := [] }
  | _ => none }
def CmapNamesWrongFalsely : Prop := cmapNamesRow.holds Try.pinned (OpenSpec.ofChange cmapNamesWrong)

/-- 'seriflaw05.CmapGroups': WHATEVER THE INPUT: true; the input reads as it did. -/
def cmapGroupsSpec : ChangeSpec := { name := "cmapGroups", fn := fun _ => fun
  | [d1, d2, d3] => { results := [.lit (.bool true)], args := [d1, d2, d3] }
  | _ => none }
def cmapGroupsRow : OpenClaim := { program := "ytebmfbfmdbimdaa", sum := "7b334d4ad192822c5db2e1dc9798e9c035d772d9dfbed8e63c833942744e2d79", func := "serif/seriflaw05.CmapGroups", spec := "cmapGroups", unfollowed := true, recurses := true, apart := false }
def CmapGroupsSaid : Prop := cmapGroupsRow.holds Try.pinned (OpenSpec.ofChange cmapGroupsSpec)

/-- ITS FALSE NEIGHBOUR: 'it returns false'. Refute it at one input. -/
def cmapGroupsWrong : ChangeSpec := { name := "cmapGroups", fn := fun _ => fun
  | [d1, d2, d3] => { results := [.lit (.bool false)], args := [d1, d2, d3] }
  | _ => none }
def CmapGroupsWrongFalsely : Prop := cmapGroupsRow.holds Try.pinned (OpenSpec.ofChange cmapGroupsWrong)

/-- 'seriflaw05.CmapBounds': WHATEVER THE INPUT: true; the input reads as it did. -/
def cmapBoundsSpec : ChangeSpec := { name := "cmapBounds", fn := fun _ => fun
  | [d1, d2, d3] => { results := [.lit (.bool true)], args := [d1, d2, d3] }
  | _ => none }
def cmapBoundsRow : OpenClaim := { program := "ytebmfbfmdbimdaa", sum := "7b334d4ad192822c5db2e1dc9798e9c035d772d9dfbed8e63c833942744e2d79", func := "serif/seriflaw05.CmapBounds", spec := "cmapBounds", unfollowed := true, recurses := true, apart := false }
def CmapBoundsSaid : Prop := cmapBoundsRow.holds Try.pinned (OpenSpec.ofChange cmapBoundsSpec)

/-- ITS FALSE NEIGHBOUR: 'it returns false'. Refute it at one input. -/
def cmapBoundsWrong : ChangeSpec := { name := "cmapBounds", fn := fun _ => fun
  | [d1, d2, d3] => { results := [.lit (.bool false)], args := [d1, d2, d3] }
  | _ => none }
def CmapBoundsWrongFalsely : Prop := cmapBoundsRow.holds Try.pinned (OpenSpec.ofChange cmapBoundsWrong)

/- THE SECOND FORM. 'bulk': how many values and letters a reading holds, each counted each time it is reached (what is shared counts as often as it is met; a slice's spare places count too). A statement '..UptoSaid' is the law's where the arguments, and the package variables that the reading takes, are together of bulk at most 1048576: NARROWER than '..Said'. Prove '..Said' where nothing that the law and all that it calls make is longer than what came in: it says more and counts as full. Else prove '..UptoSaid'. A law counts once. -/
mutual
def uptoBulk {H : Type} : DataW H → Nat
  | .lit (.string bytes) => bytes.length + 1
  | .lit _ => 1
  | .nil => 1
  | .ptr d => uptoBulk d + 1
  | .slice elems spare => uptoBulkAll elems + uptoBulkAll spare + 1
  | .agg parts => uptoBulkAll parts + 1
  | .iface _ d => uptoBulk d + 1
  | .map entries => uptoBulkEntries entries + 1
  | .held _ => 1
def uptoBulkAll {H : Type} : List (DataW H) → Nat
  | [] => 0
  | d :: r => uptoBulk d + uptoBulkAll r
def uptoBulkEntries {H : Type} : List (Lit × DataW H) → Nat
  | [] => 0
  | x :: r => uptoBulkEntry x + uptoBulkEntries r
def uptoBulkEntry {H : Type} : Lit × DataW H → Nat
  | (.string bytes, d) => bytes.length + uptoBulk d + 1
  | (_, d) => uptoBulk d + 1
 end
def uptoSmall : (H : Type) → List (DataW H) → Bool := fun _ ds => decide (uptoBulkAll ds ≤ 1048576)
def OpenSpec.upto (s : _root_.Go.ChangeSpec) : _root_.Go.OpenSpec := { _root_.Go.OpenSpec.ofChange s with cond := some uptoSmall }

/-- 'seriflaw23.LruTruth', WHERE WHAT IT READS IS OF BULK AT MOST 1048576: true; the input reads as it did. -/
def lruTruthUptoRow : OpenClaim := { program := "ytebmfbfmdbimdaa", sum := "7b334d4ad192822c5db2e1dc9798e9c035d772d9dfbed8e63c833942744e2d79", func := "serif/seriflaw23.LruTruth", spec := "lruTruth", apart := false, narrowed := true }
def LruTruthUptoSaid : Prop := lruTruthUptoRow.holds Try.pinned (OpenSpec.upto lruTruthSpec)

/-- 'seriflaw23.LruKeeps', WHERE WHAT IT READS IS OF BULK AT MOST 1048576: true; the input reads as it did. -/
def lruKeepsUptoRow : OpenClaim := { program := "ytebmfbfmdbimdaa", sum := "7b334d4ad192822c5db2e1dc9798e9c035d772d9dfbed8e63c833942744e2d79", func := "serif/seriflaw23.LruKeeps", spec := "lruKeeps", apart := false, narrowed := true }
def LruKeepsUptoSaid : Prop := lruKeepsUptoRow.holds Try.pinned (OpenSpec.upto lruKeepsSpec)

/-- 'seriflaw23.LruRuns', WHERE WHAT IT READS IS OF BULK AT MOST 1048576: true; the input reads as it did. -/
def lruRunsUptoRow : OpenClaim := { program := "ytebmfbfmdbimdaa", sum := "7b334d4ad192822c5db2e1dc9798e9c035d772d9dfbed8e63c833942744e2d79", func := "serif/seriflaw23.LruRuns", spec := "lruRuns", apart := false, narrowed := true }
def LruRunsUptoSaid : Prop := lruRunsUptoRow.holds Try.pinned (OpenSpec.upto lruRunsSpec)

/-- 'seriflaw05.CmapNames', WHERE WHAT IT READS IS OF BULK AT MOST 1048576: true; the input reads as it did. -/
def cmapNamesUptoRow : OpenClaim := { program := "ytebmfbfmdbimdaa", sum := "7b334d4ad192822c5db2e1dc9798e9c035d772d9dfbed8e63c833942744e2d79", func := "serif/seriflaw05.CmapNames", spec := "cmapNames", unfollowed := true, recurses := true, apart := false, narrowed := true }
def CmapNamesUptoSaid : Prop := cmapNamesUptoRow.holds Try.pinned (OpenSpec.upto cmapNamesSpec)

/-- 'seriflaw05.CmapGroups', WHERE WHAT IT READS IS OF BULK AT MOST 1048576: true; the input reads as it did. -/
def cmapGroupsUptoRow : OpenClaim := { program := "ytebmfbfmdbimdaa", sum := "7b334d4ad192822c5db2e1dc9798e9c035d772d9dfbed8e63c833942744e2d79", func := "serif/seriflaw05.CmapGroups", spec := "cmapGroups", unfollowed := true, recurses := true, apart := false, narrowed := true }
def CmapGroupsUptoSaid : Prop := cmapGroupsUptoRow.holds Try.pinned (OpenSpec.upto cmapGroupsSpec)

/-- 'seriflaw05.CmapBounds', WHERE WHAT IT READS IS OF BULK AT MOST 1048576: true; the input reads as it did. -/
def cmapBoundsUptoRow : OpenClaim := { program := "ytebmfbfmdbimdaa", sum := "7b334d4ad192822c5db2e1dc9798e9c035d772d9dfbed8e63c833942744e2d79", func := "serif/seriflaw05.CmapBounds", spec := "cmapBounds", unfollowed := true, recurses := true, apart := false, narrowed := true }
def CmapBoundsUptoSaid : Prop := cmapBoundsUptoRow.holds Try.pinned (OpenSpec.upto cmapBoundsSpec)

end Rows
end Go.Proofs.Ytebmfbfmdbimdaa
