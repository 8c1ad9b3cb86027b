/- Arguments of blend's laws, opened: pages, masks and layings, whose bytes are rows that came in. -/
import Derived.Test.YtplnaannfnhhgabRows
import Derived.Test.YtplnaannfnhhgabBulk
import Derived.Test.YtplnaannfnhhgabBase
import Derived.WalkKit
import Derived.ProofKit
import Derived.OpenShut
import Derived.SizedLaws
import Derived.Test.YtplnaannfnhhgabWSized
namespace Go.Proofs.Ytplnaannfnhhgab.rowB
open Go.ChangeShapes Go.WideShapes Go.ChangeAt Go.RowKit Go.Proofs.YtplnaannfnhhgabW.PrintWords Go.Proofs.YtplnaannfnhhgabW.PrintLast Go.Proofs.YtplnaannfnhhgabW.PrintMore
set_option linter.unusedVariables false
set_option linter.unusedSimpArgs false
theorem len3 {α : Type} : ∀ {l : List α}, l.length = 3 → ∃ a b c, l = [a, b, c]
  | [a, b, c], _ => ⟨a, b, c, rfl⟩
theorem len5 {α : Type} : ∀ {l : List α}, l.length = 5 → ∃ a b c d e, l = [a, b, c, d, e]
  | [a, b, c, d, e], _ => ⟨a, b, c, d, e, rfl⟩
theorem len11 {α : Type} : ∀ {l : List α}, l.length = 11 → ∃ a b c d e f g h i j k, l = [a, b, c, d, e, f, g, h, i, j, k]
  | [a, b, c, d, e, f, g, h, i, j, k], _ => ⟨a, b, c, d, e, f, g, h, i, j, k, rfl⟩
section
variable {H : Type} {enc : TypeId × Value → H} {W : World} {fuel : Nat} {cs : List Value} {x : DataW H × List MemPlace}
theorem bytes_of (h : DataW.trod enc Try.prog W 0 (fun _ => true) true fuel 30 cs = some x) : ∃ (A : Option Addr) (c : Nat) (l : List Int), cs = [.slice A l.length c] ∧ l.length ≤ c ∧ Kd.C (Kd.int .u8) W A l.length l ∧ (∀ z ∈ l, (Lit.int .u8 z).wf = true) ∧
    l.length ≤ Rows.uptoBulk x.1 ∧ (l.length = 0 ∨ ∃ m, l.length ≤ m ∧ m ∈ DataW.weights Try.prog 30 x.1) := by
  rcases open_ints Try.underlying30 Try.underlying5 (by kernel_rfl) h with ⟨rfl, hx⟩ | ⟨a, l, c, zs, rfl, _, hl, hm, hz, hx, hcell, hwz⟩
  · exact ⟨none, 0, [], rfl, Nat.le_refl _, Kd.C_nil _ _, fun _ hz => absurd hz (by simp), Nat.zero_le _, .inl rfl⟩
  · obtain ⟨l0, rfl, hr0, hm0, hw0, hc0⟩ := ReadsInt.ofRowC (k := .u8) (w := W) (a := some a) (len := l) (cap := c) (zs := zs) (.inr ⟨_, rfl, hl, hm, by simpa using hz, hcell, hwz⟩)
    have hlz : l0.length ≤ zs.length := by rw [hz]; simpa using hl
    have hll : (lits (H := H) .u8 (zs.take l0.length)).length + (lits (H := H) .u8 (zs.drop l0.length)).length = zs.length := by simp [lits]; omega
    have hd : x.1 = .slice (lits .u8 (zs.take l0.length)) (lits .u8 (zs.drop l0.length)) := by rw [hx]
    refine ⟨some a, c, l0, rfl, hc0, Kd.C_of_reads (d := (0 : Int)) (h1 := fun _ => rfl) hr0, hw0, ?_, .inr ⟨zs.length, hlz, ?_⟩⟩
    · have hsl := bulks.slice_le (H := H) (lits .u8 (zs.take l0.length)) (lits .u8 (zs.drop l0.length))
      rw [hd]
      omega
    · have hb : Try.prog.bytesOf 5 = 1 := by kernel_rfl
      rw [hd]
      simp only [DataW.weights, Try.underlying30, hll, hb, Nat.mul_one]
      exact List.mem_cons_self
theorem weights_struct {t : TypeId} {fs : Array Field} {parts : List (DataW H)} (ht : Try.prog.underlying t = some (.struct fs)) {j : Nat} {u : TypeId} {d : DataW H} (hj : (fs.toList.map (·.type))[j]? = some u) (hd : parts[j]? = some d) {n : Nat} (h : n ∈ DataW.weights Try.prog u d) : n ∈ DataW.weights Try.prog t (.agg parts) := by
  simp only [DataW.weights, ht]
  exact DataW.weights_mem_each hj hd n h
theorem bulk_struct {parts : List (DataW H)} {d : DataW H} (h : d ∈ parts) : Rows.uptoBulk d ≤ Rows.uptoBulk (.agg parts) := by
  have := bulks.part_le h
  simp only [Rows.uptoBulk]
  omega
/-- What is known of a row of bytes inside an argument that reads as D. -/
structure Bytes (W : World) (A : Option Addr) (c : Nat) (l : List Int) (t : TypeId) (D : DataW H) : Prop where
  cap : l.length ≤ c
  row : Kd.C (Kd.int .u8) W A l.length l
  wf : ∀ z ∈ l, (Lit.int .u8 z).wf = true
  bulk : l.length ≤ Rows.uptoBulk D
  size : l.length = 0 ∨ ∃ m, l.length ≤ m ∧ m ∈ DataW.weights Try.prog t D
theorem Bytes.up {A : Option Addr} {c : Nat} {l : List Int} {u t : TypeId} {d : DataW H} {parts : List (DataW H)} {fs : Array Field} (h : Bytes W A c l u d) (ht : Try.prog.underlying t = some (.struct fs)) {j : Nat} (hj : (fs.toList.map (·.type))[j]? = some u) (hd : parts[j]? = some d) : Bytes W A c l t (.agg parts) :=
  ⟨h.cap, h.row, h.wf, Nat.le_trans h.bulk (bulk_struct (List.mem_of_getElem? hd)), h.size.imp id fun ⟨m, h1, h2⟩ => ⟨m, h1, weights_struct ht hj hd h2⟩⟩
theorem Bytes.reach {A : Option Addr} {c : Nat} {l : List Int} {t : TypeId} {D : DataW H} (h : Bytes W A c l t D) {ts : List TypeId} {ds : List (DataW H)} {j : Nat} (ht : ts[j]? = some t) (hd : ds[j]? = some D) (hsz : (DataW.weightsEach Try.prog ts ds).all (· ≤ reachBytes) = true) : l.length ≤ 140737488351232 := by
  rcases h.size with h0 | ⟨m, h1, h2⟩
  · omega
  · have := List.all_eq_true.1 hsz m (DataW.weights_mem_each ht hd m h2)
    have h3 : m ≤ reachBytes := by simpa using this
    have h4 : reachBytes = 140737488351232 := rfl
    omega
theorem int_of {t : TypeId} {k : IntKind} (ht : Try.prog.underlying t = some (.int k)) {c : Value} {y : Option (DataW H × List MemPlace)} (h : DataW.trod enc Try.prog W 0 (fun _ => true) true fuel t [c] = y) {z : DataW H × List MemPlace} (hy : y = some z) : ∃ n, c = .int k n ∧ (Lit.int k n).wf = true := by
  rw [hy] at h
  obtain ⟨n, hn, _, hw⟩ := DataW.trod_int ht h
  exact ⟨n, by simpa using hn, hw⟩
theorem page_of (h : DataW.trod enc Try.prog W 0 (fun _ => true) true fuel 32 cs = some x) : ∃ (w0 h0 : Int) (A : Option Addr) (c : Nat) (l : List Int), cs = [.int .i64 w0, .int .i64 h0, .slice A l.length c] ∧ Bytes W A c l 32 x.1 := by
  obtain ⟨xs, m, _, rfl, hlen, hxl, hf⟩ := DataW.trod_struct Try.underlying32 h
  have k3 : Try.prog.cellsOf 3 = 1 := by kernel_rfl
  have k30 : Try.prog.cellsOf 30 = 1 := by kernel_rfl
  have kp : Try.prog.cellsOf 32 = 3 := by kernel_rfl
  rw [kp] at hlen
  obtain ⟨c0, c1, c2, rfl⟩ : ∃ a b c, cs = [a, b, c] := by
    exact len3 hlen
  have f0 : DataW.trod enc Try.prog W 0 (fun _ => true) true m 3 (List.take (Try.prog.cellsOf 3) (List.drop 0 [c0, c1, c2])) = xs[0]? := hf 0 _ rfl
  have f1 : DataW.trod enc Try.prog W 0 (fun _ => true) true m 3 (List.take (Try.prog.cellsOf 3) (List.drop 1 [c0, c1, c2])) = xs[1]? := hf 1 _ rfl
  have f2 : DataW.trod enc Try.prog W 0 (fun _ => true) true m 30 (List.take (Try.prog.cellsOf 30) (List.drop 2 [c0, c1, c2])) = xs[2]? := hf 2 _ rfl
  simp only [k3, k30, List.drop_zero, List.drop_succ_cons, List.take_succ_cons, List.take_zero] at f0 f1 f2
  obtain ⟨y0, h0⟩ : ∃ y, xs[0]? = some y := ⟨xs[0]'(by simp [hxl]), by simp [hxl]⟩
  obtain ⟨y1, h1⟩ : ∃ y, xs[1]? = some y := ⟨xs[1]'(by simp [hxl]), by simp [hxl]⟩
  obtain ⟨y2, h2⟩ : ∃ y, xs[2]? = some y := ⟨xs[2]'(by simp [hxl]), by simp [hxl]⟩
  obtain ⟨n0, rfl, _⟩ := int_of Try.underlying3 f0 h0
  obtain ⟨n1, rfl, _⟩ := int_of Try.underlying3 f1 h1
  rw [h2] at f2
  obtain ⟨A, c, l, hc, g1, g2, g3, g4, g5⟩ := bytes_of f2
  obtain rfl : c2 = .slice A l.length c := by simpa using hc
  exact ⟨n0, n1, A, c, l, rfl, (Bytes.mk g1 g2 g3 g4 g5).up Try.underlying32 (j := 2) rfl (by simp [h2])⟩
theorem mask_of (h : DataW.trod enc Try.prog W 0 (fun _ => true) true fuel 34 cs = some x) : ∃ (X Y w0 h0 : Int) (A : Option Addr) (c : Nat) (l : List Int), cs = [.int .i64 X, .int .i64 Y, .int .i64 w0, .int .i64 h0, .slice A l.length c] ∧
    ((Lit.int .i64 X).wf = true ∧ (Lit.int .i64 Y).wf = true ∧ (Lit.int .i64 w0).wf = true ∧ (Lit.int .i64 h0).wf = true) ∧ Bytes W A c l 34 x.1 := by
  obtain ⟨xs, m, _, rfl, hlen, hxl, hf⟩ := DataW.trod_struct Try.underlying34 h
  have k3 : Try.prog.cellsOf 3 = 1 := by kernel_rfl
  have k30 : Try.prog.cellsOf 30 = 1 := by kernel_rfl
  have kp : Try.prog.cellsOf 34 = 5 := by kernel_rfl
  rw [kp] at hlen
  obtain ⟨c0, c1, c2, c3, c4, rfl⟩ : ∃ a b c d e, cs = [a, b, c, d, e] := by
    exact len5 hlen
  have f0 : DataW.trod enc Try.prog W 0 (fun _ => true) true m 3 (List.take (Try.prog.cellsOf 3) (List.drop 0 [c0, c1, c2, c3, c4])) = xs[0]? := hf 0 _ rfl
  have f1 : DataW.trod enc Try.prog W 0 (fun _ => true) true m 3 (List.take (Try.prog.cellsOf 3) (List.drop 1 [c0, c1, c2, c3, c4])) = xs[1]? := hf 1 _ rfl
  have f2 : DataW.trod enc Try.prog W 0 (fun _ => true) true m 3 (List.take (Try.prog.cellsOf 3) (List.drop 2 [c0, c1, c2, c3, c4])) = xs[2]? := hf 2 _ rfl
  have f3 : DataW.trod enc Try.prog W 0 (fun _ => true) true m 3 (List.take (Try.prog.cellsOf 3) (List.drop 3 [c0, c1, c2, c3, c4])) = xs[3]? := hf 3 _ rfl
  have f4 : DataW.trod enc Try.prog W 0 (fun _ => true) true m 30 (List.take (Try.prog.cellsOf 30) (List.drop 4 [c0, c1, c2, c3, c4])) = xs[4]? := hf 4 _ rfl
  simp only [k3, k30, List.drop_zero, List.drop_succ_cons, List.take_succ_cons, List.take_zero] at f0 f1 f2 f3 f4
  obtain ⟨y0, h0⟩ : ∃ y, xs[0]? = some y := ⟨xs[0]'(by simp [hxl]), by simp [hxl]⟩
  obtain ⟨y1, h1⟩ : ∃ y, xs[1]? = some y := ⟨xs[1]'(by simp [hxl]), by simp [hxl]⟩
  obtain ⟨y2, h2⟩ : ∃ y, xs[2]? = some y := ⟨xs[2]'(by simp [hxl]), by simp [hxl]⟩
  obtain ⟨y3, h3⟩ : ∃ y, xs[3]? = some y := ⟨xs[3]'(by simp [hxl]), by simp [hxl]⟩
  obtain ⟨y4, h4⟩ : ∃ y, xs[4]? = some y := ⟨xs[4]'(by simp [hxl]), by simp [hxl]⟩
  obtain ⟨n0, rfl, w0⟩ := int_of Try.underlying3 f0 h0
  obtain ⟨n1, rfl, w1⟩ := int_of Try.underlying3 f1 h1
  obtain ⟨n2, rfl, w2⟩ := int_of Try.underlying3 f2 h2
  obtain ⟨n3, rfl, w3⟩ := int_of Try.underlying3 f3 h3
  rw [h4] at f4
  obtain ⟨A, c, l, hc, g1, g2, g3, g4, g5⟩ := bytes_of f4
  obtain rfl : c4 = .slice A l.length c := by simpa using hc
  exact ⟨n0, n1, n2, n3, A, c, l, rfl, ⟨w0, w1, w2, w3⟩, (Bytes.mk g1 g2 g3 g4 g5).up Try.underlying34 (j := 4) rfl (by simp [h4])⟩
theorem laying_of (h : DataW.trod enc Try.prog W 0 (fun _ => true) true fuel 36 cs = some x) : ∃ (w0 h0 : Int) (A : Option Addr) (c : Nat) (l : List Int) (X Y w1 h1 : Int) (B : Option Addr) (e : Nat) (ml : List Int) (dx dy ink : Int),
    cs = [.int .i64 w0, .int .i64 h0, .slice A l.length c, .int .i64 X, .int .i64 Y, .int .i64 w1, .int .i64 h1, .slice B ml.length e, .int .i64 dx, .int .i64 dy, .int .u8 ink] ∧
    ((Lit.int .i64 X).wf = true ∧ (Lit.int .i64 Y).wf = true ∧ (Lit.int .i64 w1).wf = true ∧ (Lit.int .i64 h1).wf = true) ∧ ((Lit.int .i64 dx).wf = true ∧ (Lit.int .i64 dy).wf = true ∧ (Lit.int .u8 ink).wf = true) ∧
    Bytes W A c l 36 x.1 ∧ Bytes W B e ml 36 x.1 := by
  obtain ⟨xs, m, _, rfl, hlen, hxl, hf⟩ := DataW.trod_struct Try.underlying36 h
  have k3 : Try.prog.cellsOf 3 = 1 := by kernel_rfl
  have k5 : Try.prog.cellsOf 5 = 1 := by kernel_rfl
  have k32 : Try.prog.cellsOf 32 = 3 := by kernel_rfl
  have k34 : Try.prog.cellsOf 34 = 5 := by kernel_rfl
  have kp : Try.prog.cellsOf 36 = 11 := by kernel_rfl
  rw [kp] at hlen
  obtain ⟨c0, c1, c2, c3, c4, c5, c6, c7, c8, c9, c10, rfl⟩ : ∃ a b c d e f g h i j k, cs = [a, b, c, d, e, f, g, h, i, j, k] := by
    exact len11 hlen
  have f0 : DataW.trod enc Try.prog W 0 (fun _ => true) true m 32 (List.take (Try.prog.cellsOf 32) (List.drop 0 [c0, c1, c2, c3, c4, c5, c6, c7, c8, c9, c10])) = xs[0]? := hf 0 _ rfl
  have f1 : DataW.trod enc Try.prog W 0 (fun _ => true) true m 34 (List.take (Try.prog.cellsOf 34) (List.drop 3 [c0, c1, c2, c3, c4, c5, c6, c7, c8, c9, c10])) = xs[1]? := hf 1 _ rfl
  have f2 : DataW.trod enc Try.prog W 0 (fun _ => true) true m 3 (List.take (Try.prog.cellsOf 3) (List.drop 8 [c0, c1, c2, c3, c4, c5, c6, c7, c8, c9, c10])) = xs[2]? := hf 2 _ rfl
  have f3 : DataW.trod enc Try.prog W 0 (fun _ => true) true m 3 (List.take (Try.prog.cellsOf 3) (List.drop 9 [c0, c1, c2, c3, c4, c5, c6, c7, c8, c9, c10])) = xs[3]? := hf 3 _ rfl
  have f4 : DataW.trod enc Try.prog W 0 (fun _ => true) true m 5 (List.take (Try.prog.cellsOf 5) (List.drop 10 [c0, c1, c2, c3, c4, c5, c6, c7, c8, c9, c10])) = xs[4]? := hf 4 _ rfl
  simp only [k3, k5, k32, k34, List.drop_zero, List.drop_succ_cons, List.take_succ_cons, List.take_zero] at f0 f1 f2 f3 f4
  obtain ⟨y0, h0⟩ : ∃ y, xs[0]? = some y := ⟨xs[0]'(by simp [hxl]), by simp [hxl]⟩
  obtain ⟨y1, h1⟩ : ∃ y, xs[1]? = some y := ⟨xs[1]'(by simp [hxl]), by simp [hxl]⟩
  obtain ⟨y2, h2⟩ : ∃ y, xs[2]? = some y := ⟨xs[2]'(by simp [hxl]), by simp [hxl]⟩
  obtain ⟨y3, h3⟩ : ∃ y, xs[3]? = some y := ⟨xs[3]'(by simp [hxl]), by simp [hxl]⟩
  obtain ⟨y4, h4⟩ : ∃ y, xs[4]? = some y := ⟨xs[4]'(by simp [hxl]), by simp [hxl]⟩
  obtain ⟨n2, rfl, w2⟩ := int_of Try.underlying3 f2 h2
  obtain ⟨n3, rfl, w3⟩ := int_of Try.underlying3 f3 h3
  obtain ⟨n4, rfl, w4⟩ := int_of Try.underlying5 f4 h4
  rw [h0] at f0
  rw [h1] at f1
  obtain ⟨p0, p1, A, c, l, hc, B1⟩ := page_of f0
  obtain ⟨X, Y, q0, q1, B, e, ml, hc2, hw, B2⟩ := mask_of f1
  simp only [List.cons.injEq, and_true] at hc hc2
  obtain ⟨rfl, rfl, rfl⟩ := hc
  obtain ⟨rfl, rfl, rfl, rfl, rfl⟩ := hc2
  exact ⟨p0, p1, A, c, l, X, Y, q0, q1, B, e, ml, n2, n3, n4, rfl, hw, ⟨w2, w3, w4⟩, B1.up Try.underlying36 (j := 0) rfl (by simp [h0]), B2.up Try.underlying36 (j := 1) rfl (by simp [h1])⟩
end
end Go.Proofs.Ytplnaannfnhhgab.rowB
