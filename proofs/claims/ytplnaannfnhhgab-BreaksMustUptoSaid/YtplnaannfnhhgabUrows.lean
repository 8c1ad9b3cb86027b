/- The program's table of characters as a list of numbers, and the proof that the Go function that makes it comes to just these cells. -/
import Derived.Test.YtplnaannfnhhgabEv
namespace Go.Proofs.Ytplnaannfnhhgab.F
open Go.RowKit
set_option linter.unusedVariables false

/-- from, to, script, class, class of breaking -/
def tab : List (List Int) :=
  [[0, 8, 0, 9, 8],
   [9, 9, 0, 11, 9],
   [10, 10, 0, 10, 3],
   [11, 11, 0, 11, 1],
   [12, 12, 0, 12, 1],
   [13, 13, 0, 10, 2],
   [14, 27, 0, 9, 8],
   [28, 30, 0, 10, 8],
   [31, 31, 0, 11, 8],
   [32, 32, 0, 12, 4],
   [33, 33, 0, 13, 14],
   [34, 34, 0, 13, 13],
   [35, 35, 0, 5, 0],
   [36, 36, 0, 5, 18],
   [37, 37, 0, 5, 19],
   [38, 38, 0, 13, 0],
   [39, 39, 0, 13, 13],
   [40, 40, 0, 13, 11],
   [41, 41, 0, 13, 12],
   [42, 42, 0, 13, 0],
   [43, 43, 0, 4, 18],
   [44, 44, 0, 7, 15],
   [45, 45, 0, 4, 10],
   [46, 46, 0, 7, 15],
   [47, 47, 0, 7, 16],
   [48, 57, 0, 3, 17],
   [58, 58, 0, 7, 15],
   [59, 59, 0, 13, 15],
   [60, 62, 0, 13, 0],
   [63, 63, 0, 13, 14],
   [64, 64, 0, 13, 0],
   [65, 90, 2, 0, 0],
   [91, 91, 0, 13, 11],
   [92, 92, 0, 13, 18],
   [93, 93, 0, 13, 12],
   [94, 96, 0, 13, 0],
   [97, 122, 2, 0, 0],
   [123, 123, 0, 13, 11],
   [124, 124, 0, 13, 9],
   [125, 125, 0, 13, 12],
   [126, 126, 0, 13, 0],
   [127, 132, 0, 9, 8],
   [133, 133, 0, 10, 1],
   [134, 159, 0, 9, 8],
   [160, 160, 0, 7, 6],
   [161, 161, 0, 13, 11],
   [162, 165, 0, 5, 18],
   [166, 169, 0, 13, 0],
   [170, 170, 2, 0, 0],
   [171, 171, 0, 13, 13],
   [173, 173, 0, 9, 9],
   [176, 176, 0, 5, 19],
   [177, 177, 0, 5, 18],
   [186, 186, 2, 0, 0],
   [187, 187, 0, 13, 13],
   [192, 214, 2, 0, 0],
   [215, 215, 0, 13, 0],
   [216, 246, 2, 0, 0],
   [247, 247, 0, 13, 0],
   [248, 591, 2, 0, 0],
   [768, 879, 1, 8, 8],
   [880, 1023, 3, 0, 0],
   [1024, 1279, 4, 0, 0],
   [1425, 1469, 5, 8, 8],
   [1470, 1470, 5, 1, 9],
   [1488, 1514, 5, 1, 0],
   [1536, 1541, 6, 6, 0],
   [1548, 1548, 0, 7, 15],
   [1563, 1563, 0, 2, 14],
   [1568, 1610, 6, 2, 0],
   [1611, 1631, 1, 8, 8],
   [1632, 1641, 6, 6, 17],
   [1642, 1642, 0, 5, 19],
   [1643, 1644, 6, 6, 17],
   [1649, 1747, 6, 2, 0],
   [1776, 1785, 6, 3, 17],
   [2304, 2307, 7, 8, 8],
   [2308, 2361, 7, 0, 0],
   [2364, 2364, 7, 8, 8],
   [2365, 2365, 7, 0, 0],
   [2366, 2383, 7, 8, 8],
   [2406, 2415, 7, 0, 17],
   [8192, 8198, 0, 12, 9],
   [8199, 8199, 0, 12, 6],
   [8200, 8202, 0, 12, 9],
   [8203, 8203, 0, 9, 5],
   [8204, 8205, 1, 9, 8],
   [8206, 8206, 0, 0, 8],
   [8207, 8207, 0, 1, 8],
   [8208, 8211, 0, 13, 9],
   [8216, 8223, 0, 13, 13],
   [8232, 8232, 0, 12, 1],
   [8233, 8233, 0, 10, 1],
   [8234, 8234, 0, 14, 8],
   [8235, 8235, 0, 16, 8],
   [8236, 8236, 0, 18, 8],
   [8237, 8237, 0, 15, 8],
   [8238, 8238, 0, 17, 8],
   [8239, 8239, 0, 7, 6],
   [8240, 8244, 0, 5, 19],
   [8288, 8288, 0, 9, 7],
   [8294, 8294, 0, 19, 8],
   [8295, 8295, 0, 20, 8],
   [8296, 8296, 0, 21, 8],
   [8297, 8297, 0, 22, 8],
   [8352, 8399, 0, 5, 18],
   [8722, 8722, 0, 4, 18],
   [12288, 12288, 0, 12, 9],
   [12289, 12290, 0, 13, 12],
   [12296, 12296, 0, 13, 11],
   [12297, 12297, 0, 13, 12],
   [12298, 12298, 0, 13, 11],
   [12299, 12299, 0, 13, 12],
   [12300, 12300, 0, 13, 11],
   [12301, 12301, 0, 13, 12],
   [19968, 40959, 8, 0, 20],
   [44032, 55203, 0, 0, 20],
   [65024, 65039, 1, 8, 8],
   [65279, 65279, 0, 9, 7],
   [65533, 65533, 0, 13, 0],
   [917760, 917999, 1, 8, 8]]
def tabCells : List Value := tab.flatten.map fun x => .int .i64 x
theorem runOps_split {P : Program} {w1 : World} {a1 : Act} {r : Option (Act × World)} : ∀ (k : Nat) {l : List Oper} {a : Act} {w : World}, runOps P (l.take k) a w = some (a1, w1) → runOps P (l.drop k) a1 w1 = r → runOps P l a w = r
  | 0, l, a, w, h, hr => by
    simp only [List.take_zero, runOps, Option.some.injEq, Prod.mk.injEq] at h
    obtain ⟨rfl, rfl⟩ := h
    simpa using hr
  | k + 1, [], a, w, h, hr => by simpa [runOps] using (by simpa [runOps] using h : (some (a, w) : Option (Act × World)) = some (a1, w1)).trans (by simpa [runOps] using hr)
  | k + 1, o :: l, a, w, h, hr => by
    simp only [List.take_succ_cons, List.drop_succ_cons, runOps] at h hr ⊢
    split at h
    · split at h
      · exact runOps_split k h hr
      · exact runOps_split k h hr
      · cases h
    · cases h
noncomputable def body : Code := (Try.f37.body).getD .skip
noncomputable def ops0 : List Oper := match body with | .seq (.region _ ops _) _ => ops.toList | _ => []
noncomputable def ops1 : List Oper := match body with | .seq _ (.seq (.region _ ops _) _) => ops.toList | _ => []
def val : Nat → Value
  | 0 => .slice none 0 0
  | i + 1 => let r := tab.getD (i / 2) []; if i % 2 = 0 then .agg #[.int .i64 (r.getD 2 0), .int .i64 (r.getD 3 0), .int .i64 (r.getD 4 0)] else .agg #[.int .i64 (r.getD 0 0), .int .i64 (r.getD 1 0), .int .i64 (r.getD 2 0), .int .i64 (r.getD 3 0), .int .i64 (r.getD 4 0)]
/-- The frame behind k of the table's parts. -/
def st (k : Nat) : Act := { tmps := ((List.range 244).map fun i => if i ≤ k then val i else undef).toArray, defers := [] }
set_option maxRecDepth 100000
theorem body_eq : Try.f37.body = some (.seq (.region 0 ops0.toArray false) (.seq (.region 1 ops1.toArray false) .ret)) := by kernel_rfl
theorem run0 (w : World) : runOps Try.prog ops0 { tmps := #[] ++ Array.replicate (Try.f37.ntmps - (#[] : Array Value).size) undef, defers := [] } w = some (st 0, w) := by kernel_rfl
theorem run1 (w : World) : runOps Try.prog ((ops1.drop 0).take 22) (st 0) w = some (st 22, w) := by kernel_rfl
theorem run2 (w : World) : runOps Try.prog ((ops1.drop 22).take 22) (st 22) w = some (st 44, w) := by kernel_rfl
theorem run3 (w : World) : runOps Try.prog ((ops1.drop 44).take 22) (st 44) w = some (st 66, w) := by kernel_rfl
theorem run4 (w : World) : runOps Try.prog ((ops1.drop 66).take 22) (st 66) w = some (st 88, w) := by kernel_rfl
theorem run5 (w : World) : runOps Try.prog ((ops1.drop 88).take 22) (st 88) w = some (st 110, w) := by kernel_rfl
theorem run6 (w : World) : runOps Try.prog ((ops1.drop 110).take 22) (st 110) w = some (st 132, w) := by kernel_rfl
theorem run7 (w : World) : runOps Try.prog ((ops1.drop 132).take 22) (st 132) w = some (st 154, w) := by kernel_rfl
theorem run8 (w : World) : runOps Try.prog ((ops1.drop 154).take 22) (st 154) w = some (st 176, w) := by kernel_rfl
theorem run9 (w : World) : runOps Try.prog ((ops1.drop 176).take 22) (st 176) w = some (st 198, w) := by kernel_rfl
theorem run10 (w : World) : runOps Try.prog ((ops1.drop 198).take 22) (st 198) w = some (st 220, w) := by kernel_rfl
theorem run11 (w : World) : runOps Try.prog ((ops1.drop 220).take 22) (st 220) w = some (st 242, w) := by kernel_rfl
theorem go1 {w : World} {r : Option (Act × World)} (h : runOps Try.prog (ops1.drop 22) (st 22) w = r) : runOps Try.prog (ops1.drop 0) (st 0) w = r := runOps_split 22 (run1 w) (by rw [List.drop_drop]; exact h)
theorem go2 {w : World} {r : Option (Act × World)} (h : runOps Try.prog (ops1.drop 44) (st 44) w = r) : runOps Try.prog (ops1.drop 22) (st 22) w = r := runOps_split 22 (run2 w) (by rw [List.drop_drop]; exact h)
theorem go3 {w : World} {r : Option (Act × World)} (h : runOps Try.prog (ops1.drop 66) (st 66) w = r) : runOps Try.prog (ops1.drop 44) (st 44) w = r := runOps_split 22 (run3 w) (by rw [List.drop_drop]; exact h)
theorem go4 {w : World} {r : Option (Act × World)} (h : runOps Try.prog (ops1.drop 88) (st 88) w = r) : runOps Try.prog (ops1.drop 66) (st 66) w = r := runOps_split 22 (run4 w) (by rw [List.drop_drop]; exact h)
theorem go5 {w : World} {r : Option (Act × World)} (h : runOps Try.prog (ops1.drop 110) (st 110) w = r) : runOps Try.prog (ops1.drop 88) (st 88) w = r := runOps_split 22 (run5 w) (by rw [List.drop_drop]; exact h)
theorem go6 {w : World} {r : Option (Act × World)} (h : runOps Try.prog (ops1.drop 132) (st 132) w = r) : runOps Try.prog (ops1.drop 110) (st 110) w = r := runOps_split 22 (run6 w) (by rw [List.drop_drop]; exact h)
theorem go7 {w : World} {r : Option (Act × World)} (h : runOps Try.prog (ops1.drop 154) (st 154) w = r) : runOps Try.prog (ops1.drop 132) (st 132) w = r := runOps_split 22 (run7 w) (by rw [List.drop_drop]; exact h)
theorem go8 {w : World} {r : Option (Act × World)} (h : runOps Try.prog (ops1.drop 176) (st 176) w = r) : runOps Try.prog (ops1.drop 154) (st 154) w = r := runOps_split 22 (run8 w) (by rw [List.drop_drop]; exact h)
theorem go9 {w : World} {r : Option (Act × World)} (h : runOps Try.prog (ops1.drop 198) (st 198) w = r) : runOps Try.prog (ops1.drop 176) (st 176) w = r := runOps_split 22 (run9 w) (by rw [List.drop_drop]; exact h)
theorem go10 {w : World} {r : Option (Act × World)} (h : runOps Try.prog (ops1.drop 220) (st 220) w = r) : runOps Try.prog (ops1.drop 198) (st 198) w = r := runOps_split 22 (run10 w) (by rw [List.drop_drop]; exact h)
theorem go11 {w : World} {r : Option (Act × World)} (h : runOps Try.prog (ops1.drop 242) (st 242) w = r) : runOps Try.prog (ops1.drop 220) (st 220) w = r := runOps_split 22 (run11 w) (by rw [List.drop_drop]; exact h)
/-! the literal's own operation -/
theorem fill_append (place : Nat → Option (Nat × Nat)) : ∀ (l1 l2 : List (Nat × Value)) (c : Array Value), Instr.fill place c (l1 ++ l2) = (Instr.fill place c l1).bind fun c => Instr.fill place c l2 := by
  intro l1
  induction l1 with
  | nil => intro l2 c; rfl
  | cons p l1 ih =>
    intro l2 c
    obtain ⟨i, v⟩ := p
    simp only [List.cons_append, Instr.fill]
    split
    · rfl
    · split
      · rfl
      · exact ih _ _
theorem fill_split {place : Nat → Option (Nat × Nat)} (k : Nat) {l : List (Nat × Value)} {c c1 : Array Value} {r : Option (Array Value)} (h : Instr.fill place c (l.take k) = some c1) (hr : Instr.fill place c1 (l.drop k) = r) : Instr.fill place c l = r := by
  have := fill_append place (l.take k) (l.drop k) c
  rw [List.take_append_drop, h] at this
  exact this.trans hr
theorem run_buildSlice {P : Program} (t e len : Nat) (i : TypeInfo) (z : Value) (ht : P.underlying t = some (.slice e)) (hi : P.info? e = some i) (hz : i.zero = some z) (hs : len * i.size ≤ 16777216) (h0 : len * i.size ≠ 0)
    (parts : Array (Nat × Value)) (cells : Array Value) (hf : Instr.fill (fun j => some (j * i.size, i.size)) ((Array.range (len * i.size)).map (z.cells[· % z.cells.size]!)) parts.toList = some cells) (w : World) :
    (Instr.buildSlice t len parts).run P w = .ok (.slice (some ⟨w.heap.size, 0, none⟩) len len) (w.alloc (.cells cells e)) := by
  have h1 : ¬ (len * i.size > 2 ^ 24) := by omega
  simp [Instr.buildSlice, run_underlying ht, sizeOf, typeInfo, hi, zeroValue, hz, h1, h0, hf, newRow]
def parts : List (Nat × Value) := (List.range 121).map fun i => (i, val (2 * i + 2))
def cs (k : Nat) : Array Value := ((tab.take k).flatten.map (fun x => Value.int .i64 x) ++ List.replicate (605 - 5 * k) (Value.int .i64 0)).toArray
theorem fill1 : Instr.fill (fun j => some (j * 5, 5)) (cs 0) ((parts.drop 0).take 11) = some (cs 11) := by kernel_rfl
theorem fill2 : Instr.fill (fun j => some (j * 5, 5)) (cs 11) ((parts.drop 11).take 11) = some (cs 22) := by kernel_rfl
theorem fill3 : Instr.fill (fun j => some (j * 5, 5)) (cs 22) ((parts.drop 22).take 11) = some (cs 33) := by kernel_rfl
theorem fill4 : Instr.fill (fun j => some (j * 5, 5)) (cs 33) ((parts.drop 33).take 11) = some (cs 44) := by kernel_rfl
theorem fill5 : Instr.fill (fun j => some (j * 5, 5)) (cs 44) ((parts.drop 44).take 11) = some (cs 55) := by kernel_rfl
theorem fill6 : Instr.fill (fun j => some (j * 5, 5)) (cs 55) ((parts.drop 55).take 11) = some (cs 66) := by kernel_rfl
theorem fill7 : Instr.fill (fun j => some (j * 5, 5)) (cs 66) ((parts.drop 66).take 11) = some (cs 77) := by kernel_rfl
theorem fill8 : Instr.fill (fun j => some (j * 5, 5)) (cs 77) ((parts.drop 77).take 11) = some (cs 88) := by kernel_rfl
theorem fill9 : Instr.fill (fun j => some (j * 5, 5)) (cs 88) ((parts.drop 88).take 11) = some (cs 99) := by kernel_rfl
theorem fill10 : Instr.fill (fun j => some (j * 5, 5)) (cs 99) ((parts.drop 99).take 11) = some (cs 110) := by kernel_rfl
theorem fill11 : Instr.fill (fun j => some (j * 5, 5)) (cs 110) ((parts.drop 110).take 11) = some (cs 121) := by kernel_rfl
theorem fills : Instr.fill (fun j => some (j * 5, 5)) (cs 0) parts = some (cs 121) := by
  refine fill_split 11 (c1 := cs 11) (by simpa using fill1) ?_
  refine fill_split 11 (c1 := cs 22) (fill2) ?_
  rw [List.drop_drop]
  refine fill_split 11 (c1 := cs 33) (fill3) ?_
  rw [List.drop_drop]
  refine fill_split 11 (c1 := cs 44) (fill4) ?_
  rw [List.drop_drop]
  refine fill_split 11 (c1 := cs 55) (fill5) ?_
  rw [List.drop_drop]
  refine fill_split 11 (c1 := cs 66) (fill6) ?_
  rw [List.drop_drop]
  refine fill_split 11 (c1 := cs 77) (fill7) ?_
  rw [List.drop_drop]
  refine fill_split 11 (c1 := cs 88) (fill8) ?_
  rw [List.drop_drop]
  refine fill_split 11 (c1 := cs 99) (fill9) ?_
  rw [List.drop_drop]
  refine fill_split 11 (c1 := cs 110) (fill10) ?_
  rw [List.drop_drop]
  refine fill_split 11 (c1 := cs 121) (fill11) ?_
  rw [List.drop_drop]
  rfl
theorem zero_at (k : Nat) (h : k < 5) : (#[Value.int .i64 0, Value.int .i64 0, Value.int .i64 0, Value.int .i64 0, Value.int .i64 0][k]! : Value) = .int .i64 0 := by
  obtain rfl | rfl | rfl | rfl | rfl : k = 0 ∨ k = 1 ∨ k = 2 ∨ k = 3 ∨ k = 4 := by omega
  all_goals rfl
theorem cs0 : (Array.range 605).map (#[Value.int .i64 0, Value.int .i64 0, Value.int .i64 0, Value.int .i64 0, Value.int .i64 0][· % 5]!) = cs 0 := by
  have e : cs 0 = (List.replicate 605 (Value.int .i64 0)).toArray := rfl
  rw [e]
  generalize 605 = n
  apply Array.ext
  · simp only [Array.size_map, Array.size_range, List.size_toArray, List.length_replicate]
  · intro i h1 h2
    simp only [Array.getElem_map, List.getElem_toArray, List.getElem_replicate]
    exact zero_at _ (Nat.mod_lt _ (by decide))
theorem cs121 : cs 121 = tabCells.toArray := by kernel_rfl
theorem info : (Try.prog.info? 66).map (fun i => (i.zero, i.size)) = some (some (.agg #[.int .i64 0, .int .i64 0, .int .i64 0, .int .i64 0, .int .i64 0]), 5) := by kernel_rfl
theorem lit_run (w : World) : (Instr.buildSlice 62 121 parts.toArray).run Try.prog w = .ok (.slice (some ⟨w.heap.size, 0, none⟩) 121 121) (w.alloc (.cells tabCells.toArray 66)) := by
  obtain ⟨i0, hi, hzz⟩ := Option.map_eq_some_iff.1 info
  simp only [Prod.mk.injEq] at hzz
  obtain ⟨hz, hs⟩ := hzz
  rw [← cs121]
  refine run_buildSlice 62 66 121 i0 _ Try.underlying62 hi hz (by rw [hs]; decide) (by rw [hs]; decide) parts.toArray (cs 121) ?_ w
  rw [hs]
  have h := fills
  rw [← cs0] at h
  exact h
noncomputable def opL : Oper := (ops1.drop 242).headD default
noncomputable def opA : Oper := (ops1.drop 243).headD default
theorem tail_eq : ops1.drop 242 = [opL, opA] := by kernel_rfl
theorem gL : opL.guard = none := by kernel_rfl
theorem gA : opA.guard = none := by kernel_rfl
theorem dL : opL.dst = some 243 := by kernel_rfl
theorem dA : opA.dst = some 0 := by kernel_rfl
noncomputable def pOps : Array (Nat × Operand) := match opL.op with | .buildSlice _ _ p => p | _ => #[]
theorem op_eq : opL.op = .buildSlice 62 121 pOps := by kernel_rfl
theorem p_eq : pOps = ((List.range 121).map fun i => (i, Operand.tmp (2 * i + 2))).toArray := by kernel_rfl
theorem two_lt (i : Nat) (h : i < 121) : 2 * i + 2 ≤ 242 := by omega
theorem st_at (k : Nat) (h : k ≤ 242) : (st 242).tmps.getD k undef = val k := by
  unfold st
  simp only [Array.getD_eq_getD_getElem?, List.getElem?_toArray, List.getElem?_map, List.getElem?_range (show k < 244 by omega), Option.map_some, Option.getD_some]
  rw [if_pos h]
theorem v_eq : (((List.range 121).map fun i => (i, Operand.tmp (2 * i + 2))).toArray.map fun (p : Nat × Operand) => (p.1, (st 242).eval p.2)) = parts.toArray := by
  rw [List.map_toArray, List.map_map]
  refine congrArg List.toArray ?_
  unfold parts
  refine List.map_congr_left fun i hi => ?_
  have hi' : i < 121 := List.mem_range.1 hi
  have hs := st_at (2 * i + 2) (by have : i < 121 := hi'; exact two_lt i this)
  show (i, (st 242).tmps.getD (2 * i + 2) undef) = _
  rw [hs]
theorem eL : execOp (st 242).eval opL = (do let v ← Instr.buildSlice 62 121 parts.toArray; pure (.value v)) := by
  unfold execOp
  rw [op_eq, p_eq]
  show (do let v ← Instr.buildSlice 62 121 (((List.range 121).map fun i => (i, Operand.tmp (2 * i + 2))).toArray.map fun (p : Nat × Operand) => (p.1, (st 242).eval p.2)); pure (Next.value v)) = _
  rw [v_eq]
theorem oA : opA.op = .assign (.tmp 243) := by kernel_rfl
theorem stSize : (st 242).tmps.size = 244 := by kernel_rfl
theorem runA (a : Act) (w : World) : (execOp a.eval opA).run Try.prog w = .ok (.value (a.eval (.tmp 243))) w := by
  unfold execOp
  rw [oA]
  rfl
theorem put243 (a : Act) (v : Value) (h : a.tmps.size = 244) : (a.put (some 243) v).eval (.tmp 243) = v := by simp [Act.put, Act.eval, h]
theorem put0 (a : Act) (v u : Value) (h : a.tmps.size = 244) : ((a.put (some 243) u).put (some 0) v).tmps.getD 0 undef = v := by simp [Act.put, h]
theorem putD (a : Act) (v u : Value) : ((a.put (some 243) u).put (some 0) v).defers = a.defers := rfl
theorem stD : (st 242).defers = [] := rfl
theorem runR (t : Array Value) (w : World) : (results Try.f37 t).run Try.prog w = .ok (t.getD 0 undef) w := by kernel_rfl
theorem last_of (a : Act) (hs : a.tmps.size = 244) (hd : a.defers = []) (w : World) (he : execOp a.eval opL = (do let v ← Instr.buildSlice 62 121 parts.toArray; pure (.value v))) : ∃ r, runOps Try.prog [opL, opA] a w = some r ∧ (r.1.defers.isEmpty, (results Try.f37 r.1.tmps).run Try.prog r.2, r.2) = (true, .ok (.slice (some ⟨w.heap.size, 0, none⟩) 121 121) (w.alloc (.cells tabCells.toArray 66)), w.alloc (.cells tabCells.toArray 66)) := by
  refine ⟨((a.put (some 243) (.slice (some ⟨w.heap.size, 0, none⟩) 121 121)).put (some 0) (.slice (some ⟨w.heap.size, 0, none⟩) 121 121), w.alloc (.cells tabCells.toArray 66)), ?_, ?_⟩
  · simp only [runOps, gL, gA, he, Sem.run_bind, lit_run, Result.andThen_ok, Sem.run_pure, dL, dA, runA]
    rw [put243 _ _ hs]
  · simp only [runR, put0 _ _ _ hs, putD, hd, List.isEmpty_nil]
theorem last (w : World) : ∃ r, runOps Try.prog (ops1.drop 242) (st 242) w = some r ∧ (r.1.defers.isEmpty, (results Try.f37 r.1.tmps).run Try.prog r.2, r.2) = (true, .ok (.slice (some ⟨w.heap.size, 0, none⟩) 121 121) (w.alloc (.cells tabCells.toArray 66)), w.alloc (.cells tabCells.toArray 66)) := by
  rw [tail_eq]
  exact last_of (st 242) stSize stD w eL
theorem h1_ {w : World} {r : Act × World} (hr : runOps Try.prog (ops1.drop 242) (st 242) w = some r) : runOps Try.prog ops1 (st 0) w = some r := by
  have h1 := (go1 (go2 (go3 (go4 (go5 (go6 (go7 (go8 (go9 (go10 (go11 hr)))))))))))
  rw [List.drop_zero] at h1
  exact h1
theorem ev {P : Program} {o0 o1 : List Oper} {a0 a1 : Act} {w w1 : World} {r : Act × World} (h0 : runOps P o0 a0 w = some (a1, w1)) (h1 : runOps P o1 a1 w1 = some r) : evalC P (.seq (.region 0 o0.toArray false) (.seq (.region 1 o1.toArray false) .ret)) a0 w = some (true, r.1, r.2) := by
  simp only [evalC, h0, h1, Option.map_some]
theorem rows_walk (w : World) : Calls Try.prog 37 #[] w fun e w' => e = .returned (.slice (some ⟨w.heap.size, 0, none⟩) 121 121) ∧ w' = w.alloc (.cells tabCells.toArray 66) := by
  obtain ⟨r, hr, he⟩ := last w
  have h2 := ev (run0 w) (h1_ hr)
  refine calls_eval (v := .slice (some ⟨w.heap.size, 0, none⟩) 121 121) (w' := w.alloc (.cells tabCells.toArray 66)) Try.func37 body_eq ?_ ⟨rfl, rfl⟩
  rw [h2]
  exact congrArg some he
end Go.Proofs.Ytplnaannfnhhgab.F
