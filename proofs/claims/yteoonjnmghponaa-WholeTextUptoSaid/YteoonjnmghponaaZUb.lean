/- What texts of hand-proved functions import. Straight code, run by the kernel: what it comes to is read off one closed computation over a world that is a letter. The program's table of characters as a list of numbers, and the proof that the Go function that makes it comes to just these cells. What ucd.Look (a binary search in the table by a closure) comes to: its plain function, and the proof that the Go code comes to it, for every number. What ranging over a string gives: the codes from a place on; small words on iterators. What ucd.other (a range over a text of pairs) comes to: its plain function, and the proof that the Go code comes to it, for every text below 2^47 bytes. What utf.Decode (a range over a string, an append a round) comes to: its plain function, and the proof that the Go code comes to it, for bytes of any length below 2^44. A region that draws its order: reads, and one operation of another kind at its end: the reads walked cheaply. slices.Clone of whole numbers: a row of its own with the same numbers. -/
import Derived.Test.YteoonjnmghponaaProg
import Derived.Below
import Derived.Deep.Draws
import Derived.Deep.AppendLies
import Derived.Maps.AppendAt
import Derived.OwnWalk
import Derived.Laws.BytesArg
import Derived.Laws.MakeOwn
import Derived.Laws.OwnMore
import Derived.Deep.OwnRows
import Derived.Tactics
import Derived.Lib.ConvBytes
import Derived.Laws.Slices
import Derived.WalkKit
import Derived.KernelRfl
import Derived.RowKit3
import Derived.Deep.LoopGhost
import Derived.Deep.QuietTactic
import Derived.BigQuiet
import Derived.WideLaws
import Derived.Deep.DeepCutAuto
import Derived.Deep.CutBlock
import Derived.Deep.RegionHeld3
import Derived.Laws.Rows
import Derived.Lib.AppendStr
import Derived.ArgAppend
import Derived.Laws.IdiomCopy
import Derived.OrdersHeld
import Derived.Laws.BitsLemmas
import Derived.RowKit
import Derived.Test.YteoonjnmghponaaWWords
import Derived.Test.YteoonjnmghponaaWLast
import Derived.Test.YteoonjnmghponaaWTab
import Derived.Test.YteoonjnmghponaaWQPut
import Derived.Test.YteoonjnmghponaaWApart
import Derived.Test.YteoonjnmghponaaWArr
import Derived.Test.YteoonjnmghponaaWZeros
import Derived.Test.YteoonjnmghponaaWFoot
import Derived.Test.YteoonjnmghponaaWKept
import Derived.Test.YteoonjnmghponaaWShare
import Derived.Test.YteoonjnmghponaaWN
import Derived.Test.YteoonjnmghponaaWFootNe
import Derived.Test.YteoonjnmghponaaWAt
import Derived.Test.YteoonjnmghponaaWRepsOne
import Derived.Test.YteoonjnmghponaaWGuard
import Derived.Test.YteoonjnmghponaaWNEv
import Derived.Test.YteoonjnmghponaaWMore
import Derived.RegionTactic
import Derived.Shelf.Abstract
import Derived.Lib.OthersKept
import Derived.StillTailTactics
namespace Go.Proofs.Yteoonjnmghponaa.F
open Go.RowKit
theorem infoU8 : (Try.prog.info? 5).map (fun i => (i.zero, i.size, i.bytes)) = some (some (.int .u8 0), 1, 1) := by kernel_rfl
end Go.Proofs.Yteoonjnmghponaa.F
namespace Go.Proofs.Yteoonjnmghponaa.F
open Go.RowKit
set_option linter.unusedVariables false

/-- Operations without guards, in their order. -/
def runOps (P : Program) : List Oper → Act → World → Option (Act × World)
  | [], a, w => some (a, w)
  | o :: rest, a, w =>
    match o.guard with
    | none =>
      match (execOp a.eval o).run P w with
      | .ok (.value v) w' => runOps P rest (a.put o.dst v) w'
      | .ok .skip w' => runOps P rest (a.put o.dst undef) w'
      | _ => none
    | some _ => none
theorem runOps_wp {P : Program} {ops : Array Oper} {Q : Exit → Act → World → Prop} : ∀ {l : List Oper} {a a' : Act} {w w' : World}, runOps P l a w = some (a', w') → Q .normal a' w' → wpList P ops Q l a w
  | [], a, a', w, w', h, hq => by
    simp only [runOps, Option.some.injEq, Prod.mk.injEq] at h
    obtain ⟨rfl, rfl⟩ := h
    exact wpList_nil hq
  | o :: rest, a, a', w, w', h, hq => by
    unfold runOps at h
    split at h
    · rename_i hg
      refine wpList_plain hg fun K hK => ?_
      unfold Oper.wp
      split at h
      · rename_i v w1 hr
        rw [hr, Oper.upon_value]
        exact hK _ _ (runOps_wp h hq)
      · rename_i w1 hr
        rw [hr, Oper.upon_skip]
        exact hK _ _ (runOps_wp h hq)
      · cases h
    · cases h
/-- Straight code: regions that draw nothing, one behind the other, and a return. -/
def evalC (P : Program) : Code → Act → World → Option (Bool × Act × World)
  | .skip, a, w => some (false, a, w)
  | .ret, a, w => some (true, a, w)
  | .region _ ops false, a, w => (runOps P ops.toList a w).map fun r => (false, r.1, r.2)
  | .seq x y, a, w => match evalC P x a w with
    | some (false, a', w') => evalC P y a' w'
    | r => r
  | _, _, _ => none
theorem evalC_wp {P : Program} : ∀ (c : Code) {Q : Exit → Act → World → Prop} {a a' : Act} {w w' : World} {b : Bool}, evalC P c a w = some (b, a', w') → Q (if b then .ret else .normal) a' w' → c.wp P Q a w := by
  intro c
  induction c with
  | skip =>
    intro Q a a' w w' b h hq
    simp only [evalC, Option.some.injEq, Prod.mk.injEq] at h
    obtain ⟨rfl, rfl, rfl⟩ := h
    exact wp_skip hq
  | ret =>
    intro Q a a' w w' b h hq
    simp only [evalC, Option.some.injEq, Prod.mk.injEq] at h
    obtain ⟨rfl, rfl, rfl⟩ := h
    exact wp_ret hq
  | region id ops dr =>
    intro Q a a' w w' b h hq
    cases dr with
    | true => simp [evalC] at h
    | false =>
      simp only [evalC] at h
      obtain ⟨r, hr, he⟩ := Option.map_eq_some_iff.1 h
      simp only [Prod.mk.injEq] at he
      obtain ⟨rfl, rfl, rfl⟩ := he
      exact wp_region_list (runOps_wp (by rw [hr]) hq)
  | seq x y ihx ihy =>
    intro Q a a' w w' b h hq
    simp only [evalC] at h
    refine wp_seq ?_
    split at h
    · rename_i a1 w1 hx
      exact ihx hx (ihy h hq)
    · rename_i r hne
      cases hx : evalC P x a w with
      | none => rw [hx] at h; cases h
      | some p =>
        obtain ⟨b1, a1, w1⟩ := p
        rw [hx] at h
        cases b1 with
        | false => exact absurd hx (hne a1 w1)
        | true =>
          simp only [Option.some.injEq, Prod.mk.injEq] at h
          obtain ⟨rfl, rfl, rfl⟩ := h
          exact ihx hx hq
  | _ => intro Q a a' w w' b h hq; simp [evalC] at h
theorem calls_eval {P : Program} {f : FuncId} {fn : Func} {c : Code} {args : Array Value} {w w' : World} {R : Ending → World → Prop} {v : Value} (hf : P.funcs[f]? = some fn) (hb : fn.body = some c)
    (h : (evalC P c { tmps := args ++ Array.replicate (fn.ntmps - args.size) undef, defers := [] } w).map (fun r => (r.2.1.defers.isEmpty, (results fn r.2.1.tmps).run P r.2.2, r.2.2)) = some (true, .ok v w', w')) (hR : R (.returned v) w') : Calls P f args w R := by
  obtain ⟨r, hr, he⟩ := Option.map_eq_some_iff.1 h
  obtain ⟨b, a1, w1⟩ := r
  simp only [Prod.mk.injEq] at he
  obtain ⟨h1, h2, rfl⟩ := he
  refine calls_of_wp hf hb (evalC_wp c hr ?_)
  cases b
  · exact ⟨List.isEmpty_iff.1 h1, v, h2, hR⟩
  · exact ⟨List.isEmpty_iff.1 h1, v, h2, hR⟩
end Go.Proofs.Yteoonjnmghponaa.F
namespace Go.Proofs.Yteoonjnmghponaa.F
open Go.RowKit
set_option linter.unusedVariables false

/-- from, to, script, class, class of breaking -/
def tab : List (List Int) :=
  [[0, 8, 0, 9, 8],
   [9, 9, 0, 11, 9],
   [10, 10, 0, 10, 3],
   [11, 11, 0, 11, 1],
   [12, 12, 0, 12, 1],
   [13, 13, 0, 10, 2],
   [14, 27, 0, 9, 8],
   [28, 30, 0, 10, 8],
   [31, 31, 0, 11, 8],
   [32, 32, 0, 12, 4],
   [33, 33, 0, 13, 14],
   [34, 34, 0, 13, 13],
   [35, 35, 0, 5, 0],
   [36, 36, 0, 5, 18],
   [37, 37, 0, 5, 19],
   [38, 38, 0, 13, 0],
   [39, 39, 0, 13, 13],
   [40, 40, 0, 13, 11],
   [41, 41, 0, 13, 12],
   [42, 42, 0, 13, 0],
   [43, 43, 0, 4, 18],
   [44, 44, 0, 7, 15],
   [45, 45, 0, 4, 10],
   [46, 46, 0, 7, 15],
   [47, 47, 0, 7, 16],
   [48, 57, 0, 3, 17],
   [58, 58, 0, 7, 15],
   [59, 59, 0, 13, 15],
   [60, 62, 0, 13, 0],
   [63, 63, 0, 13, 14],
   [64, 64, 0, 13, 0],
   [65, 90, 2, 0, 0],
   [91, 91, 0, 13, 11],
   [92, 92, 0, 13, 18],
   [93, 93, 0, 13, 12],
   [94, 96, 0, 13, 0],
   [97, 122, 2, 0, 0],
   [123, 123, 0, 13, 11],
   [124, 124, 0, 13, 9],
   [125, 125, 0, 13, 12],
   [126, 126, 0, 13, 0],
   [127, 132, 0, 9, 8],
   [133, 133, 0, 10, 1],
   [134, 159, 0, 9, 8],
   [160, 160, 0, 7, 6],
   [161, 161, 0, 13, 11],
   [162, 165, 0, 5, 18],
   [166, 169, 0, 13, 0],
   [170, 170, 2, 0, 0],
   [171, 171, 0, 13, 13],
   [173, 173, 0, 9, 9],
   [176, 176, 0, 5, 19],
   [177, 177, 0, 5, 18],
   [186, 186, 2, 0, 0],
   [187, 187, 0, 13, 13],
   [192, 214, 2, 0, 0],
   [215, 215, 0, 13, 0],
   [216, 246, 2, 0, 0],
   [247, 247, 0, 13, 0],
   [248, 591, 2, 0, 0],
   [768, 879, 1, 8, 8],
   [880, 1023, 3, 0, 0],
   [1024, 1279, 4, 0, 0],
   [1425, 1469, 5, 8, 8],
   [1470, 1470, 5, 1, 9],
   [1488, 1514, 5, 1, 0],
   [1536, 1541, 6, 6, 0],
   [1548, 1548, 0, 7, 15],
   [1563, 1563, 0, 2, 14],
   [1568, 1610, 6, 2, 0],
   [1611, 1631, 1, 8, 8],
   [1632, 1641, 6, 6, 17],
   [1642, 1642, 0, 5, 19],
   [1643, 1644, 6, 6, 17],
   [1649, 1747, 6, 2, 0],
   [1776, 1785, 6, 3, 17],
   [2304, 2307, 7, 8, 8],
   [2308, 2361, 7, 0, 0],
   [2364, 2364, 7, 8, 8],
   [2365, 2365, 7, 0, 0],
   [2366, 2383, 7, 8, 8],
   [2406, 2415, 7, 0, 17],
   [8192, 8198, 0, 12, 9],
   [8199, 8199, 0, 12, 6],
   [8200, 8202, 0, 12, 9],
   [8203, 8203, 0, 9, 5],
   [8204, 8205, 1, 9, 8],
   [8206, 8206, 0, 0, 8],
   [8207, 8207, 0, 1, 8],
   [8208, 8211, 0, 13, 9],
   [8216, 8223, 0, 13, 13],
   [8232, 8232, 0, 12, 1],
   [8233, 8233, 0, 10, 1],
   [8234, 8234, 0, 14, 8],
   [8235, 8235, 0, 16, 8],
   [8236, 8236, 0, 18, 8],
   [8237, 8237, 0, 15, 8],
   [8238, 8238, 0, 17, 8],
   [8239, 8239, 0, 7, 6],
   [8240, 8244, 0, 5, 19],
   [8288, 8288, 0, 9, 7],
   [8294, 8294, 0, 19, 8],
   [8295, 8295, 0, 20, 8],
   [8296, 8296, 0, 21, 8],
   [8297, 8297, 0, 22, 8],
   [8352, 8399, 0, 5, 18],
   [8722, 8722, 0, 4, 18],
   [12288, 12288, 0, 12, 9],
   [12289, 12290, 0, 13, 12],
   [12296, 12296, 0, 13, 11],
   [12297, 12297, 0, 13, 12],
   [12298, 12298, 0, 13, 11],
   [12299, 12299, 0, 13, 12],
   [12300, 12300, 0, 13, 11],
   [12301, 12301, 0, 13, 12],
   [19968, 40959, 8, 0, 20],
   [44032, 55203, 0, 0, 20],
   [65024, 65039, 1, 8, 8],
   [65279, 65279, 0, 9, 7],
   [65533, 65533, 0, 13, 0],
   [917760, 917999, 1, 8, 8]]
def tabCells : List Value := tab.flatten.map fun x => .int .i64 x
theorem runOps_split {P : Program} {w1 : World} {a1 : Act} {r : Option (Act × World)} : ∀ (k : Nat) {l : List Oper} {a : Act} {w : World}, runOps P (l.take k) a w = some (a1, w1) → runOps P (l.drop k) a1 w1 = r → runOps P l a w = r
  | 0, l, a, w, h, hr => by
    simp only [List.take_zero, runOps, Option.some.injEq, Prod.mk.injEq] at h
    obtain ⟨rfl, rfl⟩ := h
    simpa using hr
  | k + 1, [], a, w, h, hr => by simpa [runOps] using (by simpa [runOps] using h : (some (a, w) : Option (Act × World)) = some (a1, w1)).trans (by simpa [runOps] using hr)
  | k + 1, o :: l, a, w, h, hr => by
    simp only [List.take_succ_cons, List.drop_succ_cons, runOps] at h hr ⊢
    split at h
    · split at h
      · exact runOps_split k h hr
      · exact runOps_split k h hr
      · cases h
    · cases h
noncomputable def body : Code := (Try.f56.body).getD .skip
noncomputable def ops0 : List Oper := match body with | .seq (.region _ ops _) _ => ops.toList | _ => []
noncomputable def ops1 : List Oper := match body with | .seq _ (.seq (.region _ ops _) _) => ops.toList | _ => []
def val : Nat → Value
  | 0 => .slice none 0 0
  | i + 1 => let r := tab.getD (i / 2) []; if i % 2 = 0 then .agg #[.int .i64 (r.getD 2 0), .int .i64 (r.getD 3 0), .int .i64 (r.getD 4 0)] else .agg #[.int .i64 (r.getD 0 0), .int .i64 (r.getD 1 0), .int .i64 (r.getD 2 0), .int .i64 (r.getD 3 0), .int .i64 (r.getD 4 0)]
/-- The frame behind k of the table's parts. -/
def st (k : Nat) : Act := { tmps := ((List.range 244).map fun i => if i ≤ k then val i else undef).toArray, defers := [] }
set_option maxRecDepth 100000
theorem body_eq : Try.f56.body = some (.seq (.region 0 ops0.toArray false) (.seq (.region 1 ops1.toArray false) .ret)) := by kernel_rfl
theorem run0 (w : World) : runOps Try.prog ops0 { tmps := #[] ++ Array.replicate (Try.f56.ntmps - (#[] : Array Value).size) undef, defers := [] } w = some (st 0, w) := by kernel_rfl
theorem run1 (w : World) : runOps Try.prog ((ops1.drop 0).take 22) (st 0) w = some (st 22, w) := by kernel_rfl
theorem run2 (w : World) : runOps Try.prog ((ops1.drop 22).take 22) (st 22) w = some (st 44, w) := by kernel_rfl
theorem run3 (w : World) : runOps Try.prog ((ops1.drop 44).take 22) (st 44) w = some (st 66, w) := by kernel_rfl
theorem run4 (w : World) : runOps Try.prog ((ops1.drop 66).take 22) (st 66) w = some (st 88, w) := by kernel_rfl
theorem run5 (w : World) : runOps Try.prog ((ops1.drop 88).take 22) (st 88) w = some (st 110, w) := by kernel_rfl
theorem run6 (w : World) : runOps Try.prog ((ops1.drop 110).take 22) (st 110) w = some (st 132, w) := by kernel_rfl
theorem run7 (w : World) : runOps Try.prog ((ops1.drop 132).take 22) (st 132) w = some (st 154, w) := by kernel_rfl
theorem run8 (w : World) : runOps Try.prog ((ops1.drop 154).take 22) (st 154) w = some (st 176, w) := by kernel_rfl
theorem run9 (w : World) : runOps Try.prog ((ops1.drop 176).take 22) (st 176) w = some (st 198, w) := by kernel_rfl
theorem run10 (w : World) : runOps Try.prog ((ops1.drop 198).take 22) (st 198) w = some (st 220, w) := by kernel_rfl
theorem run11 (w : World) : runOps Try.prog ((ops1.drop 220).take 22) (st 220) w = some (st 242, w) := by kernel_rfl
theorem go1 {w : World} {r : Option (Act × World)} (h : runOps Try.prog (ops1.drop 22) (st 22) w = r) : runOps Try.prog (ops1.drop 0) (st 0) w = r := runOps_split 22 (run1 w) (by rw [List.drop_drop]; exact h)
theorem go2 {w : World} {r : Option (Act × World)} (h : runOps Try.prog (ops1.drop 44) (st 44) w = r) : runOps Try.prog (ops1.drop 22) (st 22) w = r := runOps_split 22 (run2 w) (by rw [List.drop_drop]; exact h)
theorem go3 {w : World} {r : Option (Act × World)} (h : runOps Try.prog (ops1.drop 66) (st 66) w = r) : runOps Try.prog (ops1.drop 44) (st 44) w = r := runOps_split 22 (run3 w) (by rw [List.drop_drop]; exact h)
theorem go4 {w : World} {r : Option (Act × World)} (h : runOps Try.prog (ops1.drop 88) (st 88) w = r) : runOps Try.prog (ops1.drop 66) (st 66) w = r := runOps_split 22 (run4 w) (by rw [List.drop_drop]; exact h)
theorem go5 {w : World} {r : Option (Act × World)} (h : runOps Try.prog (ops1.drop 110) (st 110) w = r) : runOps Try.prog (ops1.drop 88) (st 88) w = r := runOps_split 22 (run5 w) (by rw [List.drop_drop]; exact h)
theorem go6 {w : World} {r : Option (Act × World)} (h : runOps Try.prog (ops1.drop 132) (st 132) w = r) : runOps Try.prog (ops1.drop 110) (st 110) w = r := runOps_split 22 (run6 w) (by rw [List.drop_drop]; exact h)
theorem go7 {w : World} {r : Option (Act × World)} (h : runOps Try.prog (ops1.drop 154) (st 154) w = r) : runOps Try.prog (ops1.drop 132) (st 132) w = r := runOps_split 22 (run7 w) (by rw [List.drop_drop]; exact h)
theorem go8 {w : World} {r : Option (Act × World)} (h : runOps Try.prog (ops1.drop 176) (st 176) w = r) : runOps Try.prog (ops1.drop 154) (st 154) w = r := runOps_split 22 (run8 w) (by rw [List.drop_drop]; exact h)
theorem go9 {w : World} {r : Option (Act × World)} (h : runOps Try.prog (ops1.drop 198) (st 198) w = r) : runOps Try.prog (ops1.drop 176) (st 176) w = r := runOps_split 22 (run9 w) (by rw [List.drop_drop]; exact h)
theorem go10 {w : World} {r : Option (Act × World)} (h : runOps Try.prog (ops1.drop 220) (st 220) w = r) : runOps Try.prog (ops1.drop 198) (st 198) w = r := runOps_split 22 (run10 w) (by rw [List.drop_drop]; exact h)
theorem go11 {w : World} {r : Option (Act × World)} (h : runOps Try.prog (ops1.drop 242) (st 242) w = r) : runOps Try.prog (ops1.drop 220) (st 220) w = r := runOps_split 22 (run11 w) (by rw [List.drop_drop]; exact h)
/-! the literal's own operation -/
theorem fill_append (place : Nat → Option (Nat × Nat)) : ∀ (l1 l2 : List (Nat × Value)) (c : Array Value), Instr.fill place c (l1 ++ l2) = (Instr.fill place c l1).bind fun c => Instr.fill place c l2 := by
  intro l1
  induction l1 with
  | nil => intro l2 c; rfl
  | cons p l1 ih =>
    intro l2 c
    obtain ⟨i, v⟩ := p
    simp only [List.cons_append, Instr.fill]
    split
    · rfl
    · split
      · rfl
      · exact ih _ _
theorem fill_split {place : Nat → Option (Nat × Nat)} (k : Nat) {l : List (Nat × Value)} {c c1 : Array Value} {r : Option (Array Value)} (h : Instr.fill place c (l.take k) = some c1) (hr : Instr.fill place c1 (l.drop k) = r) : Instr.fill place c l = r := by
  have := fill_append place (l.take k) (l.drop k) c
  rw [List.take_append_drop, h] at this
  exact this.trans hr
theorem run_buildSlice {P : Program} (t e len : Nat) (i : TypeInfo) (z : Value) (ht : P.underlying t = some (.slice e)) (hi : P.info? e = some i) (hz : i.zero = some z) (hs : len * i.size ≤ 16777216) (h0 : len * i.size ≠ 0)
    (parts : Array (Nat × Value)) (cells : Array Value) (hf : Instr.fill (fun j => some (j * i.size, i.size)) ((Array.range (len * i.size)).map (z.cells[· % z.cells.size]!)) parts.toList = some cells) (w : World) :
    (Instr.buildSlice t len parts).run P w = .ok (.slice (some ⟨w.heap.size, 0, none⟩) len len) (w.alloc (.cells cells e)) := by
  have h1 : ¬ (len * i.size > 2 ^ 24) := by omega
  simp [Instr.buildSlice, run_underlying ht, sizeOf, typeInfo, hi, zeroValue, hz, h1, h0, hf, newRow]
def parts : List (Nat × Value) := (List.range 121).map fun i => (i, val (2 * i + 2))
def cs (k : Nat) : Array Value := ((tab.take k).flatten.map (fun x => Value.int .i64 x) ++ List.replicate (605 - 5 * k) (Value.int .i64 0)).toArray
theorem fill1 : Instr.fill (fun j => some (j * 5, 5)) (cs 0) ((parts.drop 0).take 11) = some (cs 11) := by kernel_rfl
theorem fill2 : Instr.fill (fun j => some (j * 5, 5)) (cs 11) ((parts.drop 11).take 11) = some (cs 22) := by kernel_rfl
theorem fill3 : Instr.fill (fun j => some (j * 5, 5)) (cs 22) ((parts.drop 22).take 11) = some (cs 33) := by kernel_rfl
theorem fill4 : Instr.fill (fun j => some (j * 5, 5)) (cs 33) ((parts.drop 33).take 11) = some (cs 44) := by kernel_rfl
theorem fill5 : Instr.fill (fun j => some (j * 5, 5)) (cs 44) ((parts.drop 44).take 11) = some (cs 55) := by kernel_rfl
theorem fill6 : Instr.fill (fun j => some (j * 5, 5)) (cs 55) ((parts.drop 55).take 11) = some (cs 66) := by kernel_rfl
theorem fill7 : Instr.fill (fun j => some (j * 5, 5)) (cs 66) ((parts.drop 66).take 11) = some (cs 77) := by kernel_rfl
theorem fill8 : Instr.fill (fun j => some (j * 5, 5)) (cs 77) ((parts.drop 77).take 11) = some (cs 88) := by kernel_rfl
theorem fill9 : Instr.fill (fun j => some (j * 5, 5)) (cs 88) ((parts.drop 88).take 11) = some (cs 99) := by kernel_rfl
theorem fill10 : Instr.fill (fun j => some (j * 5, 5)) (cs 99) ((parts.drop 99).take 11) = some (cs 110) := by kernel_rfl
theorem fill11 : Instr.fill (fun j => some (j * 5, 5)) (cs 110) ((parts.drop 110).take 11) = some (cs 121) := by kernel_rfl
theorem fills : Instr.fill (fun j => some (j * 5, 5)) (cs 0) parts = some (cs 121) := by
  refine fill_split 11 (c1 := cs 11) (by simpa using fill1) ?_
  refine fill_split 11 (c1 := cs 22) (fill2) ?_
  rw [List.drop_drop]
  refine fill_split 11 (c1 := cs 33) (fill3) ?_
  rw [List.drop_drop]
  refine fill_split 11 (c1 := cs 44) (fill4) ?_
  rw [List.drop_drop]
  refine fill_split 11 (c1 := cs 55) (fill5) ?_
  rw [List.drop_drop]
  refine fill_split 11 (c1 := cs 66) (fill6) ?_
  rw [List.drop_drop]
  refine fill_split 11 (c1 := cs 77) (fill7) ?_
  rw [List.drop_drop]
  refine fill_split 11 (c1 := cs 88) (fill8) ?_
  rw [List.drop_drop]
  refine fill_split 11 (c1 := cs 99) (fill9) ?_
  rw [List.drop_drop]
  refine fill_split 11 (c1 := cs 110) (fill10) ?_
  rw [List.drop_drop]
  refine fill_split 11 (c1 := cs 121) (fill11) ?_
  rw [List.drop_drop]
  rfl
theorem zero_at (k : Nat) (h : k < 5) : (#[Value.int .i64 0, Value.int .i64 0, Value.int .i64 0, Value.int .i64 0, Value.int .i64 0][k]! : Value) = .int .i64 0 := by
  obtain rfl | rfl | rfl | rfl | rfl : k = 0 ∨ k = 1 ∨ k = 2 ∨ k = 3 ∨ k = 4 := by omega
  all_goals rfl
theorem cs0 : (Array.range 605).map (#[Value.int .i64 0, Value.int .i64 0, Value.int .i64 0, Value.int .i64 0, Value.int .i64 0][· % 5]!) = cs 0 := by
  have e : cs 0 = (List.replicate 605 (Value.int .i64 0)).toArray := rfl
  rw [e]
  generalize 605 = n
  apply Array.ext
  · simp only [Array.size_map, Array.size_range, List.size_toArray, List.length_replicate]
  · intro i h1 h2
    simp only [Array.getElem_map, List.getElem_toArray, List.getElem_replicate]
    exact zero_at _ (Nat.mod_lt _ (by decide))
theorem cs121 : cs 121 = tabCells.toArray := by kernel_rfl
theorem info : (Try.prog.info? 114).map (fun i => (i.zero, i.size)) = some (some (.agg #[.int .i64 0, .int .i64 0, .int .i64 0, .int .i64 0, .int .i64 0]), 5) := by kernel_rfl
theorem lit_run (w : World) : (Instr.buildSlice 110 121 parts.toArray).run Try.prog w = .ok (.slice (some ⟨w.heap.size, 0, none⟩) 121 121) (w.alloc (.cells tabCells.toArray 114)) := by
  obtain ⟨i0, hi, hzz⟩ := Option.map_eq_some_iff.1 info
  simp only [Prod.mk.injEq] at hzz
  obtain ⟨hz, hs⟩ := hzz
  rw [← cs121]
  refine run_buildSlice 110 114 121 i0 _ Try.underlying110 hi hz (by rw [hs]; decide) (by rw [hs]; decide) parts.toArray (cs 121) ?_ w
  rw [hs]
  have h := fills
  rw [← cs0] at h
  exact h
noncomputable def opL : Oper := (ops1.drop 242).headD default
noncomputable def opA : Oper := (ops1.drop 243).headD default
theorem tail_eq : ops1.drop 242 = [opL, opA] := by kernel_rfl
theorem gL : opL.guard = none := by kernel_rfl
theorem gA : opA.guard = none := by kernel_rfl
theorem dL : opL.dst = some 243 := by kernel_rfl
theorem dA : opA.dst = some 0 := by kernel_rfl
noncomputable def pOps : Array (Nat × Operand) := match opL.op with | .buildSlice _ _ p => p | _ => #[]
theorem op_eq : opL.op = .buildSlice 110 121 pOps := by kernel_rfl
theorem p_eq : pOps = ((List.range 121).map fun i => (i, Operand.tmp (2 * i + 2))).toArray := by kernel_rfl
theorem two_lt (i : Nat) (h : i < 121) : 2 * i + 2 ≤ 242 := by omega
theorem st_at (k : Nat) (h : k ≤ 242) : (st 242).tmps.getD k undef = val k := by
  unfold st
  simp only [Array.getD_eq_getD_getElem?, List.getElem?_toArray, List.getElem?_map, List.getElem?_range (show k < 244 by omega), Option.map_some, Option.getD_some]
  rw [if_pos h]
theorem v_eq : (((List.range 121).map fun i => (i, Operand.tmp (2 * i + 2))).toArray.map fun (p : Nat × Operand) => (p.1, (st 242).eval p.2)) = parts.toArray := by
  rw [List.map_toArray, List.map_map]
  refine congrArg List.toArray ?_
  unfold parts
  refine List.map_congr_left fun i hi => ?_
  have hi' : i < 121 := List.mem_range.1 hi
  have hs := st_at (2 * i + 2) (by have : i < 121 := hi'; exact two_lt i this)
  show (i, (st 242).tmps.getD (2 * i + 2) undef) = _
  rw [hs]
theorem eL : execOp (st 242).eval opL = (do let v ← Instr.buildSlice 110 121 parts.toArray; pure (.value v)) := by
  unfold execOp
  rw [op_eq, p_eq]
  show (do let v ← Instr.buildSlice 110 121 (((List.range 121).map fun i => (i, Operand.tmp (2 * i + 2))).toArray.map fun (p : Nat × Operand) => (p.1, (st 242).eval p.2)); pure (Next.value v)) = _
  rw [v_eq]
theorem oA : opA.op = .assign (.tmp 243) := by kernel_rfl
theorem stSize : (st 242).tmps.size = 244 := by kernel_rfl
theorem runA (a : Act) (w : World) : (execOp a.eval opA).run Try.prog w = .ok (.value (a.eval (.tmp 243))) w := by
  unfold execOp
  rw [oA]
  rfl
theorem put243 (a : Act) (v : Value) (h : a.tmps.size = 244) : (a.put (some 243) v).eval (.tmp 243) = v := by simp [Act.put, Act.eval, h]
theorem put0 (a : Act) (v u : Value) (h : a.tmps.size = 244) : ((a.put (some 243) u).put (some 0) v).tmps.getD 0 undef = v := by simp [Act.put, h]
theorem putD (a : Act) (v u : Value) : ((a.put (some 243) u).put (some 0) v).defers = a.defers := rfl
theorem stD : (st 242).defers = [] := rfl
theorem runR (t : Array Value) (w : World) : (results Try.f56 t).run Try.prog w = .ok (t.getD 0 undef) w := by kernel_rfl
theorem last_of (a : Act) (hs : a.tmps.size = 244) (hd : a.defers = []) (w : World) (he : execOp a.eval opL = (do let v ← Instr.buildSlice 110 121 parts.toArray; pure (.value v))) : ∃ r, runOps Try.prog [opL, opA] a w = some r ∧ (r.1.defers.isEmpty, (results Try.f56 r.1.tmps).run Try.prog r.2, r.2) = (true, .ok (.slice (some ⟨w.heap.size, 0, none⟩) 121 121) (w.alloc (.cells tabCells.toArray 114)), w.alloc (.cells tabCells.toArray 114)) := by
  refine ⟨((a.put (some 243) (.slice (some ⟨w.heap.size, 0, none⟩) 121 121)).put (some 0) (.slice (some ⟨w.heap.size, 0, none⟩) 121 121), w.alloc (.cells tabCells.toArray 114)), ?_, ?_⟩
  · simp only [runOps, gL, gA, he, Sem.run_bind, lit_run, Result.andThen_ok, Sem.run_pure, dL, dA, runA]
    rw [put243 _ _ hs]
  · simp only [runR, put0 _ _ _ hs, putD, hd, List.isEmpty_nil]
theorem last (w : World) : ∃ r, runOps Try.prog (ops1.drop 242) (st 242) w = some r ∧ (r.1.defers.isEmpty, (results Try.f56 r.1.tmps).run Try.prog r.2, r.2) = (true, .ok (.slice (some ⟨w.heap.size, 0, none⟩) 121 121) (w.alloc (.cells tabCells.toArray 114)), w.alloc (.cells tabCells.toArray 114)) := by
  rw [tail_eq]
  exact last_of (st 242) stSize stD w eL
theorem h1_ {w : World} {r : Act × World} (hr : runOps Try.prog (ops1.drop 242) (st 242) w = some r) : runOps Try.prog ops1 (st 0) w = some r := by
  have h1 := (go1 (go2 (go3 (go4 (go5 (go6 (go7 (go8 (go9 (go10 (go11 hr)))))))))))
  rw [List.drop_zero] at h1
  exact h1
theorem ev {P : Program} {o0 o1 : List Oper} {a0 a1 : Act} {w w1 : World} {r : Act × World} (h0 : runOps P o0 a0 w = some (a1, w1)) (h1 : runOps P o1 a1 w1 = some r) : evalC P (.seq (.region 0 o0.toArray false) (.seq (.region 1 o1.toArray false) .ret)) a0 w = some (true, r.1, r.2) := by
  simp only [evalC, h0, h1, Option.map_some]
theorem rows_walk (w : World) : Calls Try.prog 56 #[] w fun e w' => e = .returned (.slice (some ⟨w.heap.size, 0, none⟩) 121 121) ∧ w' = w.alloc (.cells tabCells.toArray 114) := by
  obtain ⟨r, hr, he⟩ := last w
  have h2 := ev (run0 w) (h1_ hr)
  refine calls_eval (v := .slice (some ⟨w.heap.size, 0, none⟩) 121 121) (w' := w.alloc (.cells tabCells.toArray 114)) Try.func56 body_eq ?_ ⟨rfl, rfl⟩
  rw [h2]
  exact congrArg some he
end Go.Proofs.Yteoonjnmghponaa.F
namespace Go.Proofs.Yteoonjnmghponaa.F
open Go.RowKit Go.Proofs.YteoonjnmghponaaW.PrintWords Go.Proofs.YteoonjnmghponaaW.PrintLast Go.Proofs.YteoonjnmghponaaW.PrintMore
set_option linter.unusedVariables false

def flat (j : Nat) : Int := tab.flatten.getD j 0
set_option maxHeartbeats 2000000 in
/-- sort.Search over a closure that only reads: how many places lie ahead of the first at which it says yes. -/
theorem search_calls (g : Nat) (cb : Array Value) (n : Nat) (p : Nat → Bool) (w : World) (eg : ∀ args w, (callFunc g args).run Try.prog w = .ok (.enter g args) w) (hsz : n < 4611686018427387904)
  (hf : ∀ (m : Nat) (i : Nat), i < n → Calls Try.prog g (#[.int .i64 i] ++ cb) (w.drewN m) fun e w' => e = .returned (.bool (p i)) ∧ ∃ q, w' = (w.drewN m).drewN q)
  (hmono : ∀ a b, a ≤ b → b < n → p a = true → p b = true) :
  Calls Try.prog 57 #[.int .i64 n, .func (.func g) #[] cb] w fun e w' => ∃ i : Nat, e = .returned (.int .i64 i) ∧ i ≤ n ∧ (∀ t, t < i → p t = false) ∧ (∀ t, i ≤ t → t < n → p t = true) ∧ ∃ q, w' = w.drewN q := by
 have HF := Aside0.mk hf
 have M := Aside0.mk hmono
 clear hf hmono
 go_enter Try.func57, Try.ntmps57
 go_wp2
 go_loopg [5, 6] n (fun kx s5 s6 wr => ∃ (lo hi q : Nat), s5 = .int .i64 lo ∧ s6 = .int .i64 hi ∧ lo ≤ hi ∧ hi ≤ n ∧ hi - lo ≤ kx ∧ wr = w.drewN q ∧
  Aside0 ((∀ t, t < lo → p t = false) ∧ (∀ t, hi ≤ t → t < n → p t = true)))
 case atStart => exact ⟨0, n, 0, rfl, rfl, Nat.zero_le _, Nat.le_refl _, by omega, rfl, ⟨fun t ht => absurd ht (Nat.not_lt_zero _), fun t h1 h2 => by omega⟩⟩
 case round =>
  obtain ⟨lo, hi, q, rfl, rfl, hlh, hin, hg, rfl, I⟩ := hrel
  by_cases hlt : lo < hi
  ·have hc := HF.out q ((lo + hi) / 2) (by omega)
   rw [show (((lo + hi) / 2 : Nat) : Int) = ((lo : Int) + (hi : Int)) / 2 by omega] at hc
   cases hp : p ((lo + hi) / 2) <;> rw [hp] at hc
   ·have HP := Aside0.mk hp
    clear hp
    go_wp2_with fail
    refine hc.mono ?_
    rintro e w' ⟨rfl, nq, rfl⟩
    clear hc
    go_wp2_with fail
    go_roundg (hi - ((lo + hi) / 2 + 1))
    case measure => omega
    case rel =>
     have I2 : Aside0 ((∀ t, t < (lo + hi) / 2 + 1 → p t = false) ∧ (∀ t, hi ≤ t → t < n → p t = true)) := ⟨fun t ht => (by
      cases h : p t with
      | false => rfl
      | true => have := M.out t ((lo + hi) / 2) (by omega) (by omega) h; rw [HP.out] at this; cases this), I.out.2⟩
     exact ⟨(lo + hi) / 2 + 1, hi, q + nq, by rw [show ((lo : Int) + (hi : Int)) / 2 + 1 = (((lo + hi) / 2 + 1 : Nat) : Int) by omega], rfl, by omega, hin, Nat.le_refl _, by first | rfl | rw [World.drewN_drewN], I2⟩
   ·have HP := Aside0.mk hp
    clear hp
    go_wp2_with fail
    refine hc.mono ?_
    rintro e w' ⟨rfl, nq, rfl⟩
    clear hc
    go_wp2_with fail
    go_roundg ((lo + hi) / 2 - lo)
    case measure => omega
    case rel =>
     have I2 : Aside0 ((∀ t, t < lo → p t = false) ∧ (∀ t, (lo + hi) / 2 ≤ t → t < n → p t = true)) := ⟨I.out.1, fun t ht htn => M.out ((lo + hi) / 2) t ht htn HP.out⟩
     exact ⟨lo, (lo + hi) / 2, q + nq, rfl, by rw [show ((lo : Int) + (hi : Int)) / 2 = (((lo + hi) / 2 : Nat) : Int) by omega], by omega, by omega, Nat.le_refl _, by first | rfl | rw [World.drewN_drewN], I2⟩
  ·obtain rfl : hi = lo := by omega
   go_wp2
   go_ret
   exact ⟨hi, rfl, hin, I.out.1, I.out.2, q, rfl⟩

set_option maxHeartbeats 2000000 in
theorem closure_calls (bl bx bt : Nat) (x : Int) (i : Nat) (W : World) (hi : i < 121) (hl : W.cell? ⟨bl, 0, none⟩ = some (.slice (some ⟨bt, 0, none⟩) 121 121)) (hx : W.cell? ⟨bx, 0, none⟩ = some (.int .i64 x))
  (hc : W.cell? ⟨bt, i * 5 + 1, none⟩ = some (.int .i64 (flat (i * 5 + 1)))) :
  Calls Try.prog 58 (#[.int .i64 i] ++ #[.pointer (some ⟨bl, 0, none⟩), .pointer (some ⟨bx, 0, none⟩)]) W fun e w' => e = .returned (.bool (decide (x ≤ flat (i * 5 + 1)))) ∧ ∃ q, w' = W.drewN q := by
 generalize flat (i * 5 + 1) = y at hc ⊢
 have hiz : (i : Int) < 121 := by omega
 go_enter Try.func58, Try.ntmps58
 go_wp2
 go_quiet (fail)
 go_wp2
 go_ret
 exact ⟨by first | rfl | simp, _, rfl⟩
theorem flat_cell (j : Nat) (h : j < 605) : tabCells.toArray[j]? = some (.int .i64 (flat j)) := by
 have hl : tab.flatten.length = 605 := by decide +kernel
 simp only [tabCells, List.getElem?_toArray, List.getElem?_map, flat]
 rw [List.getElem?_eq_getElem (by omega), List.getD_eq_getElem?_getD, List.getElem?_eq_getElem (by omega)]
 rfl
theorem rows_any (w : World) : Calls Try.prog 56 #[] w fun e w' => e = .returned (.slice (some ⟨w.heap.size, 0, none⟩) 121 121) ∧ Aside0 (∀ j, j < 605 → w'.cell? ⟨w.heap.size, j, none⟩ = some (.int .i64 (flat j))) ∧ Aside0 (Below w.heap.size w w') ∧ Aside0 (w'.heap.size = w.heap.size + 1) := by
 refine (rows_walk w).mono ?_
 rintro e w' ⟨rfl, rfl⟩
 refine ⟨rfl, ⟨fun j hj => ?_⟩, ⟨(Below.refl _ _).alloc (Nat.le_refl _) _⟩, ⟨by simp⟩⟩
 rw [World.cell?_alloc_at _ _ _ _ rfl]
 exact flat_cell j hj
theorem to_mono (a b : Nat) (hab : a ≤ b) (hb : b < 121) : flat (a * 5 + 1) ≤ flat (b * 5 + 1) := by
 have hstep : ∀ k, k < 120 → flat (k * 5 + 1) ≤ flat ((k + 1) * 5 + 1) := by
  have hall : (List.range 120).all (fun k => decide (flat (k * 5 + 1) ≤ flat ((k + 1) * 5 + 1))) = true := by decide +kernel
  intro k hk
  simpa using List.all_eq_true.1 hall k (List.mem_range.2 hk)
 obtain ⟨d, rfl⟩ : ∃ d, b = a + d := ⟨b - a, by omega⟩
 clear hab
 induction d with
 | zero => exact Int.le_refl _
 | succ d ih => exact Int.le_trans (ih (by omega)) (hstep (a + d) (by omega))
def lookT (code : Int) : Int × Int × Int :=
 match tab.find? (fun r => decide (code ≤ r.getD 1 0)) with
 | some r => if r.getD 0 0 ≤ code then (r.getD 2 0, r.getD 3 0, r.getD 4 0) else (0, 0, 0)
 | none => (0, 0, 0)
theorem tab_len : tab.length = 121 := by decide +kernel
theorem tab_get (j : Nat) (hj : j < tab.length) : tab.getD j [] = tab[j] := by
 rw [List.getD_eq_getElem?_getD, List.getElem?_eq_getElem hj]
 rfl
theorem flat_at (i j : Nat) (hi : i < 121) (hj : j < 5) : flat (i * 5 + j) = (tab.getD i []).getD j 0 := by
 have hall : (List.range 121).all (fun i => (List.range 5).all fun j => decide (flat (i * 5 + j) = (tab.getD i []).getD j 0)) = true := by decide +kernel
 have h1 := List.all_eq_true.1 hall i (List.mem_range.2 hi)
 have h2 := List.all_eq_true.1 h1 j (List.mem_range.2 hj)
 simpa using h2
theorem look_row (code : Int) (i : Nat) (hi : i < 121) (hlo : ∀ t, t < i → decide (code ≤ flat (t * 5 + 1)) = false) (hhi : ∀ t, i ≤ t → t < 121 → decide (code ≤ flat (t * 5 + 1)) = true) :
  lookT code = if flat (i * 5) ≤ code then (flat (i * 5 + 2), flat (i * 5 + 3), flat (i * 5 + 4)) else (0, 0, 0) := by
 have hf : tab.find? (fun r => decide (code ≤ r.getD 1 0)) = some (tab.getD i []) := by
  have hl : i < tab.length := by rw [tab_len]; exact hi
  rw [List.find?_eq_some_iff_getElem]
  refine ⟨?_, i, hl, ?_, fun j hj => ?_⟩
  ·rw [← flat_at i 1 hi (by omega)]
   exact hhi i (Nat.le_refl _) hi
  ·exact (tab_get i hl).symm
  ·have h1 := hlo j hj
   rw [flat_at j 1 (by omega) (by omega), tab_get j (by omega)] at h1
   simpa using h1
 unfold lookT
 rw [hf]
 have e0 := flat_at i 0 hi (by omega)
 rw [Nat.add_zero] at e0
 simp only
 rw [e0, flat_at i 2 hi (by omega), flat_at i 3 hi (by omega), flat_at i 4 hi (by omega)]
theorem look_none (code : Int) (hlo : ∀ t, t < 121 → decide (code ≤ flat (t * 5 + 1)) = false) : lookT code = (0, 0, 0) := by
 have hf : tab.find? (fun r => decide (code ≤ r.getD 1 0)) = none := by
  rw [List.find?_eq_none]
  intro r hr
  obtain ⟨j, hj, rfl⟩ := List.mem_iff_getElem.1 hr
  have h1 := hlo j (by rw [tab_len] at hj; exact hj)
  rw [flat_at j 1 (by rw [tab_len] at hj; exact hj) (by omega), tab_get j hj] at h1
  simpa using h1
 unfold lookT
 rw [hf]
def ucd_Look.f (a0 : Int) : Option (Int × Int × Int) := some (lookT a0)
set_option maxRecDepth 100000 in
set_option maxHeartbeats 2000000 in
theorem ucd_Look.calls (a0 : Int) (r1 r2 r3 : Int) (w : World) (h : ucd_Look.f a0 = some (r1, r2, r3)) :
  Calls Try.prog 24 #[.int .i64 a0] w fun e w' => e = .returned (.agg #[.int .i64 r1, .int .i64 r2, .int .i64 r3]) ∧ Below w.heap.size w w' := by
 have HL := Aside0.mk h
 clear h
 go_enter Try.func24, Try.ntmps24
 go_wp2_with (go_at_call 56; refine (rows_any _).mono ?_; rintro e w1 ⟨rfl, HT, HB, HS⟩)
 have hsz : ((w.alloc (.cells #[.int .i64 a0] 3)).alloc (.cells #[.int .i64 0, .int .i64 0, .int .i64 0] 73)).heap.size = w.heap.size + 1 + 1 := by simp
 have hs1 : w1.heap.size = w.heap.size + 1 + 1 + 1 := by rw [HS.out, hsz]
 have hcode : (w1.alloc (.cells #[.slice (some ⟨w.heap.size + 1 + 1, 0, none⟩) 121 121] 110)).cell? ⟨w.heap.size, 0, none⟩ = some (.int .i64 a0) := by
  rw [World.cell?_alloc_lt _ _ _ (by rw [hs1]; show w.heap.size < _; omega), HB.out.cell (by rw [hsz]; show w.heap.size < _; omega), World.cell?_alloc_lt _ _ _ (by simp), World.cell?_alloc_at _ _ _ _ rfl]
  rfl
 have hvar : (w1.alloc (.cells #[.slice (some ⟨w.heap.size + 1 + 1, 0, none⟩) 121 121] 110)).cell? ⟨w1.heap.size, 0, none⟩ = some (.slice (some ⟨w.heap.size + 1 + 1, 0, none⟩) 121 121) := by
  rw [World.cell?_alloc_at _ _ _ _ rfl]
  rfl
 have hres : ∀ j, j < 3 → (w1.alloc (.cells #[.slice (some ⟨w.heap.size + 1 + 1, 0, none⟩) 121 121] 110)).heap[w.heap.size + 1]? = some (.cells #[.int .i64 0, .int .i64 0, .int .i64 0] 73 (0, 0)) := by
  intro j _
  rw [Below.heap_alloc _ _ _ (by rw [hs1]; omega), HB.out.block _ (by rw [hsz]; omega)]
  have := heap_alloc_new (w.alloc (.cells #[.int .i64 a0] 3)) (.cells #[.int .i64 0, .int .i64 0, .int .i64 0] 73)
  simpa using this
 have htab : ∀ j, j < 605 → (w1.alloc (.cells #[.slice (some ⟨w.heap.size + 1 + 1, 0, none⟩) 121 121] 110)).cell? ⟨w.heap.size + 1 + 1, j, none⟩ = some (.int .i64 (flat j)) := by
  intro j hj
  have := HT.out j hj
  rw [hsz] at this
  rw [World.cell?_alloc_lt _ _ _ (by rw [hs1]; show w.heap.size + 1 + 1 < _; omega)]
  exact this
 have hbel : Below w.heap.size w (w1.alloc (.cells #[.slice (some ⟨w.heap.size + 1 + 1, 0, none⟩) 121 121] 110)) := by
  refine Below.alloc ?_ (by rw [hs1]; omega) _
  refine Below.trans (((Below.refl _ w).alloc (Nat.le_refl _) _).alloc (by simp) _) (HB.out.mono (by rw [hsz]; omega))
 have hszW : (w1.alloc (.cells #[.slice (some ⟨w.heap.size + 1 + 1, 0, none⟩) 121 121] 110)).heap.size = w.heap.size + 1 + 1 + 1 + 1 := by simp [hs1]
 have hres := hres 0 (by omega)
 clear HT HB HS hsz
 have HS1 := Aside0.mk hs1
 have hs1' : w.heap.size + 1 < w1.heap.size := by omega
 clear hs1
 generalize (w1.alloc (.cells #[.slice (some ⟨w.heap.size + 1 + 1, 0, none⟩) 121 121] 110)) = W at *
 have hS := search_calls 58 #[.pointer (some ⟨w1.heap.size, 0, none⟩), .pointer (some ⟨w.heap.size, 0, none⟩)] 121 (fun i => decide (a0 ≤ flat (i * 5 + 1))) W (enters_of Try.func58 (by kernel_rfl) rfl) (by omega)
  (fun m i hi => closure_calls w1.heap.size w.heap.size (w.heap.size + 1 + 1) a0 i (W.drewN m) hi hvar hcode (htab _ (by omega)))
  (fun a b hab hb h => by
   have := to_mono a b hab hb
   simp only [decide_eq_true_eq] at h ⊢
   omega)
 refine hS.mono ?_
 rintro e w2 ⟨i, rfl, hi, hlo, hhi, q, rfl⟩
 clear hS
 by_cases hlt : i < 121
 ·have h0 := htab (i * 5) (by omega)
  have h2 := htab (i * 5 + 2) (by omega)
  have h3 := htab (i * 5 + 3) (by omega)
  have h4 := htab (i * 5 + 4) (by omega)
  clear htab
  have hv := look_row a0 i hlt hlo hhi
  have HV := Aside0.mk hv
  have HLO := Aside0.mk hlo
  clear hv hlo hhi
  generalize flat (i * 5) = f0 at *
  generalize flat (i * 5 + 2) = f2 at *
  generalize flat (i * 5 + 3) = f3 at *
  generalize flat (i * 5 + 4) = f4 at *
  have hc0 := cell_of_row W (w.heap.size + 1) 0 _ _ _ hres
  have hc1 := cell_of_row W (w.heap.size + 1) 1 _ _ _ hres
  have hc2 := cell_of_row W (w.heap.size + 1) 2 _ _ _ hres
  have hz0 : W.frozen? ⟨w.heap.size + 1, 0, none⟩ = false := by simp [World.frozen?, hres]
  have hz1 : W.frozen? ⟨w.heap.size + 1, 1, none⟩ = false := by simp [World.frozen?, hres]
  have hz2 : W.frozen? ⟨w.heap.size + 1, 2, none⟩ = false := by simp [World.frozen?, hres]
  clear hres
  simp only [List.getElem?_toArray, List.getElem?_cons_zero, List.getElem?_cons_succ] at hc0 hc1 hc2
  have hiz : (i : Int) < 121 := by omega
  have hib : decide ((i : Int) < 121) = true := decide_eq_true hiz
  by_cases hf : f0 ≤ a0
  ·have hfb : decide (f0 ≤ a0) = true := decide_eq_true hf
   go_wp2_with fail
   go_quiet (fail)
   go_wp2_with fail
   have he := Option.some.inj HL.out
   rw [HV.out, if_pos hf] at he
   simp only [Prod.mk.injEq] at he
   obtain ⟨rfl, rfl, rfl⟩ := he
   refine bodyPost_ret (v := .agg #[.int .i64 f2, .int .i64 f3, .int .i64 f4]) (by simp [results, Try.results24, go_sem, hc0, hc1, hc2]) rfl ⟨rfl, ?_⟩
   exact (((pw_below_drewN hbel _).setCell (Nat.le_succ _) _).setCell (Nat.le_succ _) _).setCell (Nat.le_succ _) _
  ·have hfb : decide (f0 ≤ a0) = false := decide_eq_false hf
   go_wp2_with fail
   go_quiet (fail)
   go_wp2_with fail
   have he := Option.some.inj HL.out
   rw [HV.out, if_neg (by omega)] at he
   simp only [Prod.mk.injEq] at he
   obtain ⟨rfl, rfl, rfl⟩ := he
   refine bodyPost_ret (v := .agg #[.int .i64 0, .int .i64 0, .int .i64 0]) (by simp [results, Try.results24, go_sem, hc0, hc1, hc2]) rfl ⟨rfl, ?_⟩
   exact (((pw_below_drewN hbel _).setCell (Nat.le_succ _) _).setCell (Nat.le_succ _) _).setCell (Nat.le_succ _) _
 ·have HV := Aside0.mk (look_none a0 (fun t ht => hlo t (by omega)))
  clear hlo hhi htab
  have hc0 := cell_of_row W (w.heap.size + 1) 0 _ _ _ hres
  have hc1 := cell_of_row W (w.heap.size + 1) 1 _ _ _ hres
  have hc2 := cell_of_row W (w.heap.size + 1) 2 _ _ _ hres
  have hz0 : W.frozen? ⟨w.heap.size + 1, 0, none⟩ = false := by simp [World.frozen?, hres]
  have hz1 : W.frozen? ⟨w.heap.size + 1, 1, none⟩ = false := by simp [World.frozen?, hres]
  have hz2 : W.frozen? ⟨w.heap.size + 1, 2, none⟩ = false := by simp [World.frozen?, hres]
  clear hres
  simp only [List.getElem?_toArray, List.getElem?_cons_zero, List.getElem?_cons_succ] at hc0 hc1 hc2
  have hib : decide ((i : Int) < 121) = false := decide_eq_false (by omega)
  go_wp2_with fail
  go_quiet (fail)
  go_wp2_with fail
  have he := Option.some.inj HL.out
  rw [HV.out] at he
  simp only [Prod.mk.injEq] at he
  obtain ⟨rfl, rfl, rfl⟩ := he
  refine bodyPost_ret (v := .agg #[.int .i64 0, .int .i64 0, .int .i64 0]) (by simp [results, Try.results24, go_sem, hc0, hc1, hc2]) rfl ⟨rfl, ?_⟩
  exact (((pw_below_drewN hbel _).setCell (Nat.le_succ _) _).setCell (Nat.le_succ _) _).setCell (Nat.le_succ _) _
end Go.Proofs.Yteoonjnmghponaa.F
namespace Go.Proofs.Yteoonjnmghponaa.F
open Go.RowKit Go.Proofs.YteoonjnmghponaaW.PrintWords Go.Proofs.YteoonjnmghponaaW.PrintLast Go.Proofs.YteoonjnmghponaaW.PrintMore
set_option linter.unusedVariables false
/-- The codes that the bytes from place pos on write, at most so many. -/
def decFrom (s : ByteArray) : Nat → Nat → List Int
  | 0, _ => []
  | fuel + 1, pos => if pos < s.size then ((Utf8.decode s pos).1 : Int) :: decFrom s fuel (pos + (Utf8.decode s pos).2) else []
theorem width_pos (s : ByteArray) (pos : Nat) (h : pos < s.size) : 1 ≤ (Utf8.decode s pos).2 := by
  by_cases ha : (s[pos]'h).toNat < 128
  · rw [decode_ascii s pos h ha]
    exact Nat.le_refl _
  · exact (decode_high s pos h (by omega)).2
theorem decFrom_end (s : ByteArray) (fuel pos : Nat) (h : ¬ pos < s.size) : decFrom s fuel pos = [] := by
  cases fuel with
  | zero => rfl
  | succ f => simp [decFrom, h]
theorem strOfNums_size (l : List Int) : (strOfNums l).size = l.length := by
  show (strOfNums l).data.size = _
  simp [strOfNums]
/-- A row of the call's own while an iterator moves on. -/
theorem R_iterAt {α : Type} {d : Kd α} {e base : Nat} {ok : Nat → Prop} {w : World} {v : Value} {xs : List α} (h : d.R e w base ok v xs) {k : Nat} {s : ByteArray} {pos : Nat} (hk : w.heap[k]? = some (.stringIter s pos)) (pos' : Nat) :
    d.R e (w.iterAt k s pos') base ok v xs := by
  refine Kd.R_mono (Kd.R_move (Kd.R_bound h) (fun j hj => ?_)) (fun _ hj => hj.1)
  obtain ⟨_, _, _, q, _, cells, hc⟩ := hj
  refine Lib.iterAt_other w k j s pos' ?_
  rintro rfl
  rw [hk] at hc
  cases hc
end Go.Proofs.Yteoonjnmghponaa.F
namespace Go.Proofs.Yteoonjnmghponaa.F
open Go.RowKit Go.Proofs.YteoonjnmghponaaW.PrintWords Go.Proofs.YteoonjnmghponaaW.PrintLast Go.Proofs.YteoonjnmghponaaW.PrintMore
set_option linter.unusedVariables false
/-- last: the character ahead; at: how many came -/
def otherL (code : Int) : List Int → Int → Nat → Int × Int
  | [], _, _ => (0, 0)
  | c :: l, last, at_ => if at_ % 2 = 1 ∧ last = code then (c, 1) else if at_ % 2 = 1 ∧ c = code then (last, 2) else otherL code l c (at_ + 1)
def ucd_other.f (a0 : ByteArray) (a1 : Int) : Option (Int × Int) := if a0.size ≤ 140737488355328 then some (otherL a1 (decFrom a0 a0.size 0) 0 0) else none
set_option maxHeartbeats 4000000 in
set_option maxRecDepth 100000 in
theorem ucd_other.calls (a0 : ByteArray) (a1 : Int) (r1 r2 : Int) (w : World) (h : ucd_other.f a0 a1 = some (r1, r2)) :
    Calls Try.prog 114 #[.string a0, .int .i64 a1] w fun e w' => e = .returned (.tuple #[.int .i64 r1, .int .i64 r2]) ∧ Below w.heap.size w w' := by
  have hsz : a0.size ≤ 140737488355328 := by
    unfold ucd_other.f at h
    split at h
    · assumption
    · cases h
  unfold ucd_other.f at h
  rw [if_pos hsz] at h
  have HF := Aside0.mk (Option.some.inj h)
  clear h
  go_enter Try.func114, Try.ntmps114
  go_wp2
  go_loopw [6, 7] (fun s6 s7 wr => ∃ (pos fuel k : Nat) (last : Int), s6 = .int .i32 last ∧ s7 = .int .i64 k ∧ -2147483648 ≤ last ∧ last ≤ 2147483647 ∧ wr.heap[w.heap.size]? = some (.stringIter a0 pos) ∧ Below w.heap.size w wr ∧ Aside0 (otherL a1 (decFrom a0 fuel pos) last k = (r1, r2)) ∧ a0.size ≤ pos + fuel ∧ k ≤ pos) (fun _ _ wr => a0.size - wr.iterPos w.heap.size)
  case atStart =>
    refine ⟨0, a0.size, 0, 0, rfl, rfl, by omega, by omega, ?_, (Below.refl _ w).alloc (Nat.le_refl _) _, HF, by omega, by omega⟩
    simpa using World.iter_heap w a0 0
  case round =>
    obtain ⟨pos, fuel, k, last, rfl, rfl, hl0, hl1, hit, hbw, HA, hfu, hkp⟩ := hrel
    clear HF
    have hsz1 : w.heap.size < wr.heap.size := (Array.getElem?_eq_some_iff.1 hit).1
    by_cases hp : pos < a0.size
    · have hnx : ∀ ty, (Instr.next (.pointer (some ⟨w.heap.size, 0, none⟩)) true ty).run Try.prog wr = _ := fun ty => Lib.run_next_any_at wr w.heap.size a0 pos ty hit hp
      have hwd := width_pos a0 pos hp
      have hd1 := decode_le a0 pos
      have HI2 := Aside0.mk (Lib.iterAt_heap wr w.heap.size a0 pos (pos + (Utf8.decode a0 pos).2) hit)
      have hbw2 := Lib.below_iterAt hbw (k := w.heap.size) (Nat.le_refl _) a0 (pos + (Utf8.decode a0 pos).2)
      have HIT := Aside0.mk hit
      clear hit hbw
      obtain ⟨f, rfl⟩ : ∃ f, fuel = f + 1 := ⟨fuel - 1, by omega⟩
      have HA2 : Aside0 ((if k % 2 = 1 ∧ last = a1 then (((Utf8.decode a0 pos).1 : Int), (1 : Int)) else if k % 2 = 1 ∧ ((Utf8.decode a0 pos).1 : Int) = a1 then (last, 2) else otherL a1 (decFrom a0 f (pos + (Utf8.decode a0 pos).2)) ((Utf8.decode a0 pos).1 : Int) (k + 1)) = (r1, r2)) := ⟨by
        have := HA.out
        simp only [decFrom, hp, if_true, otherL] at this
        exact this⟩
      clear HA
      generalize hcx : (Utf8.decode a0 pos).1 = c at *
      clear hcx
      generalize (Utf8.decode a0 pos).2 = wd at *
      by_cases hodd : k % 2 = 1
      · have ho1 : ((k : Int) % 2 == 1) = true := by rw [beq_iff_eq]; omega
        by_cases h1 : last = a1
        · have hb1 : (last == a1) = true := by rw [beq_iff_eq]; exact h1
          have he := HA2.out
          rw [if_pos ⟨hodd, h1⟩] at he
          simp only [Prod.mk.injEq] at he
          obtain ⟨rfl, rfl⟩ := he
          clear h1 HA2 hodd
          go_wp2
          go_ret2
          exact ⟨rfl, hbw2⟩
        · have hb1 : (last == a1) = false := by rw [beq_eq_false_iff_ne]; exact h1
          by_cases h2 : (c : Int) = a1
          · have hb2 : ((c : Int) == a1) = true := by rw [beq_iff_eq]; exact h2
            have he := HA2.out
            rw [if_neg (fun h => h1 h.2), if_pos ⟨hodd, h2⟩] at he
            simp only [Prod.mk.injEq] at he
            obtain ⟨rfl, rfl⟩ := he
            clear h1 h2 HA2 hodd
            go_wp2
            go_ret2
            exact ⟨rfl, hbw2⟩
          · have hb2 : ((c : Int) == a1) = false := by rw [beq_eq_false_iff_ne]; exact h2
            have he := Aside0.mk (show otherL a1 (decFrom a0 f (pos + wd)) (c : Int) (k + 1) = (r1, r2) by
              have he := HA2.out
              rw [if_neg (fun h => h1 h.2), if_neg (fun h => h2 h.2)] at he
              exact he)
            clear h1 h2 HA2 hodd
            go_wp2
            go_roundw
            case rel => exact ⟨pos + wd, f, k + 1, (c : Int), rfl, by go_num, by omega, by omega, HI2.out, hbw2, he, by omega, by omega⟩
            case measure =>
              simp only [World.iterPos, HI2.out, HIT.out]
              omega
      · have ho1 : ((k : Int) % 2 == 1) = false := by rw [beq_eq_false_iff_ne]; omega
        have he := Aside0.mk (show otherL a1 (decFrom a0 f (pos + wd)) (c : Int) (k + 1) = (r1, r2) by
          have he := HA2.out
          rw [if_neg (fun h => hodd h.1), if_neg (fun h => hodd h.1)] at he
          exact he)
        clear HA2 hodd
        go_wp2
        go_roundw
        case rel => exact ⟨pos + wd, f, k + 1, (c : Int), rfl, by go_num, by omega, by omega, HI2.out, hbw2, he, by omega, by omega⟩
        case measure =>
          simp only [World.iterPos, HI2.out, HIT.out]
          omega
    · have hnx : ∀ ty, (Instr.next (.pointer (some ⟨w.heap.size, 0, none⟩)) true ty).run Try.prog wr = _ := fun ty => Lib.run_next_end_at wr w.heap.size a0 pos ty hit hp
      have he := HA.out
      rw [decFrom_end a0 fuel pos hp] at he
      simp only [otherL, Prod.mk.injEq] at he
      obtain ⟨rfl, rfl⟩ := he
      go_wp2
      go_ret2
      exact ⟨rfl, hbw⟩
end Go.Proofs.Yteoonjnmghponaa.F
namespace Go.Proofs.Yteoonjnmghponaa.F
open Go.RowKit Go.Proofs.YteoonjnmghponaaW.PrintWords Go.Proofs.YteoonjnmghponaaW.PrintLast Go.Proofs.YteoonjnmghponaaW.PrintMore
set_option linter.unusedVariables false
theorem info3 : (Try.prog.info? 3).map (fun i => (i.zero, i.size, i.bytes)) = some (some (.int .i64 0), 1, 8) := by kernel_rfl
def utf_Decode.f (l0 : List Int) : Option (List Int) := if (decFrom (strOfNums l0) l0.length 0).length < 17592186044416 then some (decFrom (strOfNums l0) l0.length 0) else none

set_option maxHeartbeats 4000000 in
set_option maxRecDepth 100000 in
theorem utf_Decode.calls (A0 : Option Addr) (c0 : Nat) (l0 : List Int) (r : List Int) (w : World) (hr0 : Kd.C (Kd.int .u8) w A0 l0.length l0) (hc0 : l0.length ≤ c0) (h : utf_Decode.f l0 = some r) :
    Calls Try.prog 10 #[.slice A0 l0.length c0] w fun e w' => ∃ v0_ : Value, e = .returned (v0_) ∧ Kd.R (Kd.int .i64) 3 w' w.heap.size (fun _ => True) v0_ r ∧ Below w.heap.size w w' := by
  have hlen : (decFrom (strOfNums l0) l0.length 0).length < 17592186044416 := by
    unfold utf_Decode.f at h
    split at h
    · assumption
    · cases h
  unfold utf_Decode.f at h
  rw [if_pos hlen] at h
  obtain rfl := Option.some.inj h
  clear h
  have hkc := Kd.C_string (P := Try.prog) (src := 23) (dst := 9) (e := 5) (c := c0) Try.underlying23 Try.underlying5 Try.underlying9 hr0
  have hsz : (strOfNums l0).size = l0.length := strOfNums_size l0
  clear hr0
  generalize hs : strOfNums l0 = s at *
  generalize hn : l0.length = n at *
  have HN := Aside0.mk hn
  have HS := Aside0.mk hs
  have HZ := Aside0.mk hsz
  have HL := Aside0.mk hlen
  clear hn hs hsz hlen
  go_enter Try.func10, Try.ntmps10
  go_wp2
  have HZ2 := HZ.out
  go_loopw [3] (fun v wr => ∃ (pos fuel : Nat) (acc : List Int), Aside0 (Kd.R (Kd.int .i64) 3 wr w.heap.size (fun _ => True) v acc) ∧ wr.heap[w.heap.size]? = some (.stringIter s pos) ∧ Below w.heap.size w wr ∧ Aside0 (acc ++ decFrom s fuel pos = decFrom s n 0) ∧ s.size ≤ pos + fuel) (fun _ wr => s.size - wr.iterPos w.heap.size)
  case atStart =>
    refine ⟨0, n, [], ⟨Kd.R_nil _ _ _ _ _⟩, ?_, (Below.refl _ w).alloc (Nat.le_refl _) _, ⟨rfl⟩, by omega⟩
    simpa using World.iter_heap w s 0
  case round =>
    obtain ⟨pos, fuel, acc, hI, hit, hbw, hacc, hfu⟩ := hrel
    have hsz : w.heap.size < wr.heap.size := (Array.getElem?_eq_some_iff.1 hit).1
    by_cases hp : pos < s.size
    · have hnx : ∀ ty, (Instr.next (.pointer (some ⟨w.heap.size, 0, none⟩)) true ty).run Try.prog wr = _ := fun ty => Lib.run_next_any_at wr w.heap.size s pos ty hit hp
      have hwd := width_pos s pos hp
      have hd1 := decode_le s pos
      have hI2 := Aside0.mk (R_iterAt hI.out hit (pos + (Utf8.decode s pos).2))
      have hit2 := Lib.iterAt_heap wr w.heap.size s pos (pos + (Utf8.decode s pos).2) hit
      have hbw2 := Lib.below_iterAt hbw (k := w.heap.size) (Nat.le_refl _) s (pos + (Utf8.decode s pos).2)
      have hsz2 : w.heap.size < (wr.iterAt w.heap.size s (pos + (Utf8.decode s pos).2)).heap.size := by rw [Lib.iterAt_size]; omega
      obtain ⟨f, rfl⟩ : ∃ f, fuel = f + 1 := ⟨fuel - 1, by omega⟩
      have hal : acc.length + 1 < 17592186044416 := by
        have := HL.out
        rw [← hacc.out] at this
        simp only [decFrom, hp, if_true, List.length_append, List.length_cons] at this
        omega
      go_wp2_with (at_builtin; refine Kd.R_append (Kd.int .i64) (w0 := w) w.heap.size rfl (.tmp 12) (.tmp 15) 42 3 (.int .i64 0) 8 rfl Try.underlying42 info3 rfl (by decide) (by omega) _ acc ((Utf8.decode s pos).1 : Int) [.int .i64 ((Utf8.decode s pos).1 : Int)] (fun _ => True) (fun _ => False) rfl rfl rfl (fun _ hk => hk.elim) (fun _ _ => trivial) hI2.out hbw2 (Nat.le_of_lt hsz2) (by omega) ?_)
      intro v1 w1 hR1 hB1 hG1 hA1
      have hit3 : w1.heap[w.heap.size]? = some (.stringIter s (pos + (Utf8.decode s pos).2)) := by
        refine (hG1.block w.heap.size hsz2 ?_).trans hit2
        intro hk
        obtain ⟨inner, ho⟩ := Kd.R_own hI2.out
        obtain ⟨cells, hc⟩ := own_typed ho _ hk.symm
        rw [hit2] at hc
        cases hc
      have HR1 := Aside0.mk hR1
      have HI3 := Aside0.mk hit3
      clear hR1 hit3 hG1 hA1
      go_wp2
      go_roundw
      case rel =>
        refine ⟨pos + (Utf8.decode s pos).2, f, acc ++ [((Utf8.decode s pos).1 : Int)], HR1, HI3.out, hB1, ⟨?_⟩, by omega⟩
        rw [← hacc.out]
        simp [decFrom, hp]
      case measure =>
        simp only [World.iterPos, HI3.out, hit]
        omega
    · have hnx : ∀ ty, (Instr.next (.pointer (some ⟨w.heap.size, 0, none⟩)) true ty).run Try.prog wr = _ := fun ty => Lib.run_next_end_at wr w.heap.size s pos ty hit hp
      go_wp2
      go_ret
      have ha := hacc.out
      rw [decFrom_end s fuel pos hp, List.append_nil] at ha
      subst ha
      exact ⟨_, rfl, hI.out, hbw⟩
end Go.Proofs.Yteoonjnmghponaa.F
namespace Go.Proofs.Yteoonjnmghponaa.F
theorem quiet_still {P : Program} {ops : Array Oper} {W : World} {Q : Act → Prop} : ∀ (l : List Oper) (a : Act), wpQuiet P ops (fun w' => w' = W) Q l a → wpStill P ops W Q l a
  | [], a, h => h
  | o :: l, a, h => by
    unfold wpQuiet at h
    unfold wpStill
    split at h
    · rename_i hw
      rw [if_pos hw]
      obtain ⟨v, h1, h2⟩ := h
      have h3 := h1 W rfl
      have h4 := quiet_still l _ h2
      unfold Oper.quietAt Oper.quietUpon at h3
      unfold Oper.still Oper.stillUpon
      split at h3
      · rename_i he
        rw [he]
        obtain ⟨e1, e2⟩ := h3
        subst e1 e2
        exact ⟨rfl, h4⟩
      · rename_i he
        rw [he]
        obtain ⟨e1, e2⟩ := h3
        subst e1 e2
        exact ⟨rfl, h4⟩
      · rename_i he
        rw [he]
        obtain ⟨e1, e2⟩ := h3
        subst e1
        exact ⟨rfl, v, e2, h4⟩
      · exact h3.elim
    · rename_i hw
      rw [if_neg hw]
      exact quiet_still l _ h
theorem wp_region_quiet_tail {P : Program} {id : Nat} {Q : Exit → Act → World → Prop} {a : Act} {w : World} {l : List Oper} (n : Nat) (hm : P.follows .mixedOrders = true) (hB : Region.lexTailB .any l.toArray n = true)
    (h : wpQuiet P l.toArray (fun w' => w' = w.drew) (fun a' => wpList P l.toArray Q (l.drop n) a' w.drew) (l.take n) a) : (Code.region id l.toArray true).wp P Q a w :=
  wp_region_still_tail n hm hB (quiet_still _ _ h)
end Go.Proofs.Yteoonjnmghponaa.F
namespace Go.Proofs.Yteoonjnmghponaa.F
open Go.RowKit Go.Proofs.YteoonjnmghponaaW.PrintWords Go.Proofs.YteoonjnmghponaaW.PrintLast Go.Proofs.YteoonjnmghponaaW.PrintMore
attribute [local go_sem] max2_int min2_int max_two min_two max_three min_three max_four min_four
set_option linter.unusedVariables false
set_option linter.unusedSimpArgs false
theorem infoI : (Try.prog.info? 3).map (fun i => (i.zero, i.size, i.bytes)) = some (some (.int .i64 0), 1, 8) := by kernel_rfl
def slices_Clone_int_int.f (l0 : List Int) : Option (List Int) := (some (([] : List Int) : List Int)).bind fun y101 => (if y101.length + l0.length < 17592186044416 then (some (y101 ++ l0)) else (none))
set_option maxHeartbeats 8000000 in
set_option maxRecDepth 100000 in
theorem slices_Clone_int_int.calls (A0 : Option Addr) (c0 : Nat) (l0 : List Int) (r : List Int) (w : World) (hr0 : Kd.C (Kd.int .i64) w A0 l0.length l0) (hc0 : l0.length ≤ c0) (h : slices_Clone_int_int.f l0 = some r) :
    Calls Try.prog 29 #[.slice A0 l0.length c0] w fun e w' => ∃ v0_ : Value, e = .returned (v0_) ∧ Kd.R (Kd.int .i64) 3 w' w.heap.size (fun _ => True) v0_ r ∧ Below w.heap.size w w' := by
  have HR0 := Aside0.mk hr0
  have HC0 := Aside0.mk hc0
  clear hr0 hc0
  have HB := Aside0.mk (Below.refl w.heap.size w)
  cases A0 with
  | none =>
    have e0 : l0 = [] := by
      cases l0 with
      | nil => rfl
      | cons x l =>
        obtain ⟨ad, h1, _⟩ := Kd.at_int HR0.out 0 (Int.le_refl _) (by simp only [List.length_cons]; omega)
        cases h1
    subst e0
    have hr : r = [] := by
      simp [slices_Clone_int_int.f] at h
      exact h
    subst hr
    have hq : ∀ w : World, (binOp BinOp.eql 42 (.slice none 0 c0) (.slice none 0 0)).run Try.prog w = .ok (.bool true) w := fun _ => by kernel_rfl
    go_enter Try.func29, Try.ntmps29
    go_wp2
    go_ret
    exact ⟨_, rfl, Kd.R_nil _ _ _ _ _, Below.refl _ _⟩
  | some ad =>
    have H : ((some (([] : List Int) : List Int)).bind fun y101 => (if y101.length + l0.length < 17592186044416 then (some (y101 ++ l0)) else (none))) = some r := h
    clear h
    obtain ⟨y101, hy101⟩ : ∃ y_ : List Int, y_ = (([] : List Int)) := ⟨_, rfl⟩
    replace H : (if y101.length + l0.length < 17592186044416 then (some (y101 ++ l0)) else (none)) = some r := by first | (rw [hy101]; with_reducible exact H) | (have H2_ := (Option.bind_some _ _).symm.trans H; rw [hy101]; with_reducible exact H2_) | (have H2_ := (Option.bind_some _ _).symm.trans H; with_reducible exact H2_) | with_reducible exact H | (rw [hy101]; exact H) | exact H
    have Ny101 := Aside0.mk hy101
    clear hy101
    by_cases c2 : y101.length + l0.length < 17592186044416
    · rw [if_pos c2] at H
      have LMc2 := Aside0.mk c2
      clear c2
      obtain ⟨y104, hy104⟩ : ∃ y_ : List Int, y_ = (y101 ++ l0) := ⟨_, rfl⟩
      replace H : (some y104) = some r := by first | (rw [hy104]; with_reducible exact H) | (have H2_ := (Option.bind_some _ _).symm.trans H; rw [hy104]; with_reducible exact H2_) | (have H2_ := (Option.bind_some _ _).symm.trans H; with_reducible exact H2_) | with_reducible exact H | (rw [hy104]; exact H) | exact H
      have Ny104 := Aside0.mk hy104
      clear hy104
      obtain rfl := Option.some.inj H
      have hq : ∀ w : World, (binOp BinOp.eql 42 (.slice (some ad) l0.length c0) (.slice none 0 0)).run Try.prog w = .ok (.bool false) w := fun _ => by kernel_rfl
      go_enter Try.func29, Try.ntmps29
      go_wp2_with (first | ((with_reducible refine gate_dst (N := 5) rfl ?_); refine Kd.R_lit (Kd.int .i64) _ 3 ?hg (N := 5) ?hd (xs := ([] : List Int)) (inner := []) (ok := fun _ => True) (okp := fun _ => True) ?hr ?hp (fun _ hk => hk) trivial (Below.refl _ _) (Nat.le_refl _) (by simp) ?_; (case hd => rfl); (case hg => rfl); (case hr => first | (go_simp; done) | (go_simp; rfl)); (case hp => exact (Reps.none _ _)); intro v102 w3 ho4 hb hg_ hnew_; clear hg_ hnew_; (first | rw [← Ny101.out] at ho4 | (simp only [Int.reduceToNat] at ho4; rw [← Ny101.out] at ho4)); have n0_ := Aside0.mk (Kd.R_lower ho4 (below_size (by repeat (first | (with_reducible first | exact HB.out | apply below_alloc | apply pw_below_drewN | apply below_drew1) | exact HB.out)))); have n1_ := Aside0.mk (below_step (by repeat (first | (with_reducible first | exact HB.out | apply below_alloc | apply pw_below_drewN | apply below_drew1) | exact HB.out)) hb); clear HB; have HO103 := n0_; have HB := n1_; clear n0_ n1_; clear hb ho4) | ((with_reducible refine gate_builtin (b := .append) (xs := #[.tmp 5, .tmp 6]) rfl ?_); at_builtin; refine Kd.R_append_rows (Kd.int .i64) (w0 := w) w.heap.size rfl (.tmp 5) (.tmp 6) 42 3 (.int .i64 0) 8 rfl Try.underlying42 infoI rfl (by decide) (by omega) v102 y101 l0 _ _ _ (fun _ => True) (fun _ => False) rfl rfl ?aO ?aR (fun _ _ h => h) (fun _ h => h.elim) ?aF ?aB ?aS ?aL ?_; (case aR => repeat (first | exact (Kd.C_below HR0.out HB.out) | (with_reducible refine Kd.C_alloc ?_ _) | (with_reducible refine Kd.C_drewN ?_ _) | (with_reducible refine Kd.C_drew ?_))); (case aB => exact (by repeat (first | (with_reducible first | exact HB.out | apply below_alloc | apply pw_below_drewN | apply below_drew1) | exact HB.out))); (case aF => exact (fun _ _ => trivial)); (case aO => exact (by (with_reducible repeat (first | apply Kd.R_alloc | apply Kd.R_drewN | apply Kd.R_drew)); exact HO103.out)); (case aS => exact (below_size (by repeat (first | (with_reducible first | exact HB.out | apply below_alloc | apply pw_below_drewN | apply below_drew1) | exact HB.out)))); (case aL => have := LMc2.out; omega); intro v105 w5 ho hb hg hat; rw [← Ny104.out] at ho; have n0_ := Aside0.mk (hb); have n1_ := Aside0.mk (ho); clear HB; clear HO103; have HB := n0_; have HO106 := n1_; clear n0_ n1_; clear ho hb hg hat))
      go_ret
      exact ⟨_, by rfl, by (with_reducible repeat (first | apply Kd.R_alloc | apply Kd.R_drewN | apply Kd.R_drew)); exact HO106.out, by repeat (first | (with_reducible first | exact HB.out | apply below_alloc | apply pw_below_drewN | apply below_drew1) | exact HB.out)⟩
    · rw [if_neg c2] at H
      exact absurd H (by simp)
end Go.Proofs.Yteoonjnmghponaa.F
