/- What the bound on an input gives: how many values and letters it may hold. (Began as the seat page's own UptoLemmas text.) Arguments that are slices whose elements are some whole numbers each (structs, arrays), opened. An argument that is bytes, opened. -/
import Derived.Test.YtebmfbfmdbimdaaRows
import Derived.Test.YtebmfbfmdbimdaaBase
import Derived.WalkKit
import Derived.ProofKit
import Derived.OpenShut
import Derived.SizedLaws
import Derived.Deep.Slices
import Derived.Test.YtebmfbfmdbimdaaWSized
namespace Go.Proofs.Ytebmfbfmdbimdaa.bulks

theorem one_le {H : Type} (d : DataW H) : 1 ≤ Rows.uptoBulk d := by
  cases d with
  | lit l => cases l <;> simp [Rows.uptoBulk]
  | nil => simp [Rows.uptoBulk]
  | ptr d => simp [Rows.uptoBulk]
  | slice elems spare => simp [Rows.uptoBulk]
  | agg parts => simp [Rows.uptoBulk]
  | iface t d => simp [Rows.uptoBulk]
  | map entries => simp [Rows.uptoBulk]
  | held h => simp [Rows.uptoBulk]

/-- a part's bulk is at most the whole's -/
theorem part_le {H : Type} {d : DataW H} {l : List (DataW H)} (h : d ∈ l) : Rows.uptoBulk d ≤ Rows.uptoBulkAll l := by
  induction l with
  | nil => cases h
  | cons x r ih =>
    simp only [Rows.uptoBulkAll]
    cases List.mem_cons.1 h with
    | inl e => subst e; omega
    | inr e => have := ih e; omega

theorem append {H : Type} (l r : List (DataW H)) : Rows.uptoBulkAll (l ++ r) = Rows.uptoBulkAll l + Rows.uptoBulkAll r := by
  induction l with
  | nil => simp [Rows.uptoBulkAll]
  | cons x l ih => simp only [List.cons_append, Rows.uptoBulkAll, ih]; omega

/-- so many values at the most -/
theorem length_le {H : Type} (l : List (DataW H)) : l.length ≤ Rows.uptoBulkAll l := by
  induction l with
  | nil => simp [Rows.uptoBulkAll]
  | cons x r ih => have := one_le x; simp only [Rows.uptoBulkAll, List.length_cons]; omega

/-- a slice's places, and what they hold -/
theorem slice_le {H : Type} (elems spare : List (DataW H)) : elems.length + spare.length + 1 ≤ Rows.uptoBulk (.slice elems spare) := by
  have h1 := length_le elems
  have h2 := length_le spare
  simp only [Rows.uptoBulk]
  omega
theorem slice_elems {H : Type} (elems spare : List (DataW H)) : Rows.uptoBulkAll elems + 1 ≤ Rows.uptoBulk (.slice elems spare) := by
  simp only [Rows.uptoBulk]
  omega

/-- a string's letters -/
theorem string_eq {H : Type} (bytes : List UInt8) : Rows.uptoBulk (DataW.lit (H := H) (.string bytes)) = bytes.length + 1 := by
  simp [Rows.uptoBulk]

/-- THE BOUND, as the builder hands it over ('hk') -/
theorem bound {H : Type} {l : List (DataW H)} (hk : Rows.uptoSmall H l = true) : Rows.uptoBulkAll l ≤ 1048576 := by
  simpa [Rows.uptoSmall] using hk

/-- ROOM: a slice of n elements of b bytes, grown by append: below the 2^48 bytes that append, make and a Builder bear. Here n up to 2^21, b up to 4,096: put your own numbers. -/
theorem room {n b : Nat} (hn : n ≤ 2097152) (hb : b ≤ 4096) : (n + n / 4 + 192) * b ≤ 281474976710656 := by
  have h : (n + n / 4 + 192) * b ≤ 2621632 * 4096 := Nat.mul_le_mul (by omega) hb
  omega

end Go.Proofs.Ytebmfbfmdbimdaa.bulks
namespace Go.Proofs.Ytebmfbfmdbimdaa.rowQ
open Go.ChangeShapes Go.WideShapes Go.ChangeAt Go.RowKit Go.Proofs.YtebmfbfmdbimdaaW.PrintWords Go.Proofs.YtebmfbfmdbimdaaW.PrintLast Go.Proofs.YtebmfbfmdbimdaaW.PrintMore Go.Deep
set_option linter.unusedVariables false
set_option linter.unusedSimpArgs false
/-- A slice's elements, q whole numbers each, as they lie. -/
def RowQ (q : Nat) (w : World) (A : Option Addr) (l : List (List Int)) : Prop :=
  ∀ i, i < l.length → ∃ x, A = some x ∧ ∀ j, j < q → w.cell? (x.add (i * q + j)) = some (.int .i64 ((l.getD i []).getD j 0))
theorem RowQ.below {q : Nat} {w w' : World} {A : Option Addr} {l : List (List Int)} (h : RowQ q w A l) (hb : Below w.heap.size w w') : RowQ q w' A l := fun i hi => by
  obtain ⟨x, hx, hc⟩ := h i hi
  exact ⟨x, hx, fun j hj => pw_cell_below hb (hc j hj)⟩
/-- An element's cells as a walk spells them. -/
theorem RowQ.cell0 {q : Nat} {w : World} {A : Option Addr} {l : List (List Int)} (h : RowQ q w A l) (hq : 0 < q) {i : Nat} (hi : i < l.length) : ∃ x, A = some x ∧ w.cell? (x.add (i * q)) = some (.int .i64 ((l.getD i []).getD 0 0)) ∧
    ∀ j, 0 < j → j < q → w.cell? ⟨(x.add (i * q)).block, (x.add (i * q)).off + j, none⟩ = some (.int .i64 ((l.getD i []).getD j 0)) := by
  obtain ⟨x, hx, hc⟩ := h i hi
  refine ⟨x, hx, hc 0 hq, fun j h0 hj => ?_⟩
  have := hc j hj
  rw [← Go.Deep.add_add] at this
  have e : (x.add (i * q)).add j = ⟨(x.add (i * q)).block, (x.add (i * q)).off + j, none⟩ := by
    rw [Addr.add, if_neg (by omega)]
  rwa [e] at this
theorem RowQ.drop {q : Nat} {w : World} {x : Addr} {l : List (List Int)} (h : RowQ q w (some x) l) (n : Nat) : RowQ q w (some (x.add (n * q))) (l.drop n) := by
  intro i hi
  rw [List.length_drop] at hi
  obtain ⟨y, hy, hc⟩ := h (n + i) (by omega)
  injection hy with hy
  subst hy
  refine ⟨_, rfl, fun j hj => ?_⟩
  have := hc j hj
  have e : (l.drop n).getD i [] = l.getD (n + i) [] := by
    rw [List.getD_eq_getElem?_getD, List.getElem?_drop, ← List.getD_eq_getElem?_getD]
  rw [Go.Deep.add_add, e, ← Nat.add_assoc, ← Nat.add_mul]
  exact this
theorem len3 {α : Type} : ∀ {l : List α}, l.length = 3 → ∃ a b c, l = [a, b, c]
  | [a, b, c], _ => ⟨a, b, c, rfl⟩
theorem len4 {α : Type} : ∀ {l : List α}, l.length = 4 → ∃ a b c d, l = [a, b, c, d]
  | [a, b, c, d], _ => ⟨a, b, c, d, rfl⟩
theorem len2 {α : Type} : ∀ {l : List α}, l.length = 2 → ∃ a b, l = [a, b]
  | [a, b], _ => ⟨a, b, rfl⟩
section
variable {H : Type} {enc : TypeId × Value → H} {W : World} {fuel : Nat} {cs : List Value} {x : DataW H × List MemPlace}
theorem int_of {t : TypeId} {k : IntKind} (ht : Try.prog.underlying t = some (.int k)) {c : Value} {y : Option (DataW H × List MemPlace)} (h : DataW.trod enc Try.prog W 0 (fun _ => true) true fuel t [c] = y) {z : DataW H × List MemPlace} (hy : y = some z) : ∃ n, c = .int k n ∧ (Lit.int k n).wf = true := by
  rw [hy] at h
  obtain ⟨n, hn, _, hw⟩ := DataW.trod_int ht h
  exact ⟨n, by simpa using hn, hw⟩
/-- Cells that are q whole numbers. -/
def Ints (q : Nat) (cs : List Value) : Prop := ∃ zs : List Int, zs.length = q ∧ cs = zs.map (Value.int .i64) ∧ ∀ z ∈ zs, (Lit.int .i64 z).wf = true
theorem op_of (h : DataW.trod enc Try.prog W 0 (fun _ => true) true fuel 30 cs = some x) : Ints 4 cs := by
  obtain ⟨xs, m, _, rfl, hlen, hxl, hf⟩ := DataW.trod_struct Try.underlying30 h
  have k3 : Try.prog.cellsOf 3 = 1 := by kernel_rfl
  have kp : Try.prog.cellsOf 30 = 4 := by kernel_rfl
  rw [kp] at hlen
  obtain ⟨c0, c1, c2, c3, rfl⟩ := len4 hlen
  have f0 : DataW.trod enc Try.prog W 0 (fun _ => true) true m 3 (List.take (Try.prog.cellsOf 3) (List.drop 0 [c0, c1, c2, c3])) = xs[0]? := hf 0 _ rfl
  have f1 : DataW.trod enc Try.prog W 0 (fun _ => true) true m 3 (List.take (Try.prog.cellsOf 3) (List.drop 1 [c0, c1, c2, c3])) = xs[1]? := hf 1 _ rfl
  have f2 : DataW.trod enc Try.prog W 0 (fun _ => true) true m 3 (List.take (Try.prog.cellsOf 3) (List.drop 2 [c0, c1, c2, c3])) = xs[2]? := hf 2 _ rfl
  have f3 : DataW.trod enc Try.prog W 0 (fun _ => true) true m 3 (List.take (Try.prog.cellsOf 3) (List.drop 3 [c0, c1, c2, c3])) = xs[3]? := hf 3 _ rfl
  simp only [k3, List.drop_zero, List.drop_succ_cons, List.take_succ_cons, List.take_zero] at f0 f1 f2 f3
  obtain ⟨y0, h0⟩ : ∃ y, xs[0]? = some y := ⟨xs[0]'(by simp [hxl]), by simp [hxl]⟩
  obtain ⟨y1, h1⟩ : ∃ y, xs[1]? = some y := ⟨xs[1]'(by simp [hxl]), by simp [hxl]⟩
  obtain ⟨y2, h2⟩ : ∃ y, xs[2]? = some y := ⟨xs[2]'(by simp [hxl]), by simp [hxl]⟩
  obtain ⟨y3, h3⟩ : ∃ y, xs[3]? = some y := ⟨xs[3]'(by simp [hxl]), by simp [hxl]⟩
  obtain ⟨n0, rfl, w0⟩ := int_of Try.underlying3 f0 h0
  obtain ⟨n1, rfl, w1⟩ := int_of Try.underlying3 f1 h1
  obtain ⟨n2, rfl, w2⟩ := int_of Try.underlying3 f2 h2
  obtain ⟨n3, rfl, w3⟩ := int_of Try.underlying3 f3 h3
  exact ⟨[n0, n1, n2, n3], rfl, rfl, by simp [w0, w1, w2, w3]⟩
theorem arr_of {t : TypeId} {n : Nat} (ht : Try.prog.underlying t = some (.array n 3)) (hc : Try.prog.cellsOf t = n) (h : DataW.trod enc Try.prog W 0 (fun _ => true) true fuel t cs = some x) : Ints n cs := by
  obtain ⟨xs, m, _, rfl, hlen, hxl, hf⟩ := DataW.trod_array ht h
  have k3 : Try.prog.cellsOf 3 = 1 := by kernel_rfl
  rw [hc] at hlen
  have hk : ∀ i, i < n → ∃ z : Int, cs[i]? = some (.int .i64 z) ∧ (Lit.int .i64 z).wf = true := by
    intro i hi
    have f := hf i hi
    rw [k3, Nat.mul_one, List.drop_eq_getElem_cons (by omega), List.take_succ_cons, List.take_zero] at f
    obtain ⟨y, hy⟩ : ∃ y, xs[i]? = some y := ⟨xs[i]'(by omega), by simp [show i < xs.length by omega]⟩
    obtain ⟨z, hz, hw⟩ := int_of Try.underlying3 f hy
    exact ⟨z, by rw [List.getElem?_eq_getElem (by omega), hz], hw⟩
  have hI : ∀ (k : Nat) (cs : List Value), cs.length = k → (∀ i, i < k → ∃ z : Int, cs[i]? = some (.int .i64 z) ∧ (Lit.int .i64 z).wf = true) → Ints k cs := by
    intro k
    induction k with
    | zero =>
      intro cs h0 _
      exact ⟨[], rfl, by simpa using h0, by simp⟩
    | succ k ih =>
      intro cs h0 hh
      cases cs with
      | nil => simp at h0
      | cons c cs =>
        obtain ⟨z, hz, hw⟩ := hh 0 (by omega)
        obtain ⟨zs, h1, h2, h3⟩ := ih cs (by simpa using h0) (fun i hi => by
          obtain ⟨z, hz, hw⟩ := hh (i + 1) (by omega)
          exact ⟨z, by simpa using hz, hw⟩)
        refine ⟨z :: zs, by simp [h1], ?_, fun y hy => ?_⟩
        · simp at hz
          rw [hz, h2]
          rfl
        · rcases List.mem_cons.1 hy with rfl | hy
          · exact hw
          · exact h3 _ hy
  exact hI n cs hlen hk
/-- A slice whose elements are q whole numbers each. -/
theorem quads_of {t e : TypeId} {q B : Nat} (ht : Try.prog.underlying t = some (.slice e)) (hq : Try.prog.cellsOf e = q) (hB : Try.prog.bytesOf e = B)
    (he : ∀ fuel cs (x : DataW H × List MemPlace), DataW.trod enc Try.prog W 0 (fun _ => true) true fuel e cs = some x → Ints q cs) {A : Option Addr} {n c : Nat} (h : DataW.trod enc Try.prog W 0 (fun _ => true) true fuel t [.slice A n c] = some x) :
    ∃ l : List (List Int), n = l.length ∧ l.length ≤ c ∧ RowQ q W A l ∧ (∀ z ∈ l, z.length = q ∧ ∀ y ∈ z, (Lit.int .i64 y).wf = true) ∧ l.length ≤ Rows.uptoBulk x.1 ∧
      (∀ {ts : List TypeId} {ds : List (DataW H)} {j : Nat}, (DataW.weightsEach Try.prog ts ds).all (· ≤ reachBytes) = true → ts[j]? = some t → ds[j]? = some x.1 → l.length * B ≤ 140737488351232) := by
  rcases open_slice ht h with ⟨hcs, hx⟩ | ⟨a, len, cap, m, n', D, Pl, hcs, _, hl, hm, hmm, hx, hi⟩
  · simp at hcs
    obtain ⟨rfl, rfl, rfl⟩ := hcs
    exact ⟨[], rfl, Nat.le_refl _, fun i hi => by simp at hi, fun z hz => by simp at hz, Nat.zero_le _, fun _ _ _ => by simp⟩
  · simp at hcs
    obtain ⟨rfl, rfl, rfl⟩ := hcs
    have hml : n ≤ m := by rw [hmm]; simpa using hl
    have hk : ∀ i, i < n → ∃ zs : List Int, zs.length = q ∧ (∀ z ∈ zs, (Lit.int .i64 z).wf = true) ∧ ∀ j, j < q → W.cell? (a.add (i * q + j)) = some (.int .i64 (zs.getD j 0)) := by
      intro i hin
      obtain ⟨cs', hc, ht'⟩ := hi i (by omega)
      rw [hq] at hc
      obtain ⟨zs, h1, rfl, h3⟩ := he _ _ _ ht'
      obtain ⟨_, hcl, hat⟩ := World.cells?_some hc
      refine ⟨zs, h1, h3, fun j hj => ?_⟩
      rw [← Go.Deep.add_add, hat j hj]
      simp [List.getElem?_eq_getElem (show j < zs.length by omega), List.getD_eq_getElem?_getD]
    have hch : ∀ k, k ≤ n → ∃ l : List (List Int), l.length = k ∧ (∀ i, i < k → (l.getD i []).length = q ∧ (∀ z ∈ l.getD i [], (Lit.int .i64 z).wf = true) ∧ ∀ j, j < q → W.cell? (a.add (i * q + j)) = some (.int .i64 ((l.getD i []).getD j 0))) := by
      intro k
      induction k with
      | zero => exact fun _ => ⟨[], rfl, fun i hi => by omega⟩
      | succ k ih =>
        intro hk1
        obtain ⟨l, h1, h2⟩ := ih (by omega)
        obtain ⟨zs, g1, g2, g3⟩ := hk k (by omega)
        refine ⟨l ++ [zs], by simp [h1], fun i hi => ?_⟩
        by_cases hik : i < k
        · have := h2 i hik
          rw [List.getD_eq_getElem?_getD, List.getElem?_append_left (by omega), ← List.getD_eq_getElem?_getD]
          exact this
        · obtain rfl : i = k := by omega
          rw [List.getD_eq_getElem?_getD, List.getElem?_append_right (by omega), h1, Nat.sub_self]
          exact ⟨g1, g2, g3⟩
    obtain ⟨l, h1, h2⟩ := hch n (Nat.le_refl _)
    have hd : x.1 = .slice ((List.range n).map D) ((List.range (m - n)).map fun j => D (n + j)) := by rw [hx]
    refine ⟨l, h1.symm, by omega, fun i hi => ⟨a, rfl, (h2 i (by omega)).2.2⟩, fun z hz => ?_, ?_, fun hsz h1' h2' => ?_⟩
    · obtain ⟨i, hi, rfl⟩ := List.getElem_of_mem hz
      have := h2 i (by omega)
      rw [List.getD_eq_getElem?_getD, List.getElem?_eq_getElem hi] at this
      exact ⟨this.1, this.2.1⟩
    · have hsl := bulks.slice_le (H := H) ((List.range n).map D) ((List.range (m - n)).map fun j => D (n + j))
      rw [hd]
      simp at hsl
      omega
    · rw [hd] at h2'
      have z := sized_slice hsz h1' h2' ht
      rw [hB] at z
      simp at z
      have : l.length * B ≤ (n + (m - n)) * B := Nat.mul_le_mul_right _ (by omega)
      have h4 : reachBytes = 140737488351232 := rfl
      omega
end
end Go.Proofs.Ytebmfbfmdbimdaa.rowQ
namespace Go.Proofs.Ytebmfbfmdbimdaa.row8
open Go.ChangeShapes Go.WideShapes Go.ChangeAt Go.RowKit Go.Proofs.YtebmfbfmdbimdaaW.PrintWords Go.Proofs.YtebmfbfmdbimdaaW.PrintLast Go.Proofs.YtebmfbfmdbimdaaW.PrintMore
set_option linter.unusedVariables false
set_option linter.unusedSimpArgs false
section
variable {H : Type} {enc : TypeId × Value → H} {W : World} {fuel : Nat} {cs : List Value} {x : DataW H × List MemPlace}
theorem bytes_of (h : DataW.trod enc Try.prog W 0 (fun _ => true) true fuel 60 cs = some x) : ∃ (A : Option Addr) (c : Nat) (l : List Int), cs = [.slice A l.length c] ∧ l.length ≤ c ∧ Kd.C (Kd.int .u8) W A l.length l ∧ (∀ z ∈ l, (Lit.int .u8 z).wf = true) ∧
    l.length ≤ Rows.uptoBulk x.1 ∧ (l.length = 0 ∨ ∃ m, l.length ≤ m ∧ m ∈ DataW.weights Try.prog 60 x.1) := by
  rcases open_ints Try.underlying60 Try.underlying5 (by kernel_rfl) h with ⟨rfl, hx⟩ | ⟨a, l, c, zs, rfl, _, hl, hm, hz, hx, hcell, hwz⟩
  · exact ⟨none, 0, [], rfl, Nat.le_refl _, Kd.C_nil _ _, fun _ hz => absurd hz (by simp), Nat.zero_le _, .inl rfl⟩
  · obtain ⟨l0, rfl, hr0, hm0, hw0, hc0⟩ := ReadsInt.ofRowC (k := .u8) (w := W) (a := some a) (len := l) (cap := c) (zs := zs) (.inr ⟨_, rfl, hl, hm, by simpa using hz, hcell, hwz⟩)
    have hlz : l0.length ≤ zs.length := by rw [hz]; simpa using hl
    have hll : (lits (H := H) .u8 (zs.take l0.length)).length + (lits (H := H) .u8 (zs.drop l0.length)).length = zs.length := by simp [lits]; omega
    have hd : x.1 = .slice (lits .u8 (zs.take l0.length)) (lits .u8 (zs.drop l0.length)) := by rw [hx]
    refine ⟨some a, c, l0, rfl, hc0, Kd.C_of_reads (d := (0 : Int)) (h1 := fun _ => rfl) hr0, hw0, ?_, .inr ⟨zs.length, hlz, ?_⟩⟩
    · have hsl := bulks.slice_le (H := H) (lits .u8 (zs.take l0.length)) (lits .u8 (zs.drop l0.length))
      rw [hd]
      omega
    · have hb : Try.prog.bytesOf 5 = 1 := by kernel_rfl
      rw [hd]
      simp only [DataW.weights, Try.underlying60, hll, hb, Nat.mul_one]
      exact List.mem_cons_self
theorem row8_of {A : Option Addr} {n c : Nat} (h : DataW.trod enc Try.prog W 0 (fun _ => true) true fuel 60 [.slice A n c] = some x) : ∃ l : List Int, n = l.length ∧ l.length ≤ c ∧ Kd.C (Kd.int .u8) W A l.length l ∧ (∀ z ∈ l, (Lit.int .u8 z).wf = true) ∧ l.length ≤ Rows.uptoBulk x.1 ∧
    (∀ {ts : List TypeId} {ds : List (DataW H)} {j : Nat}, (DataW.weightsEach Try.prog ts ds).all (· ≤ reachBytes) = true → ts[j]? = some 60 → ds[j]? = some x.1 → l.length ≤ 140737488351232) := by
  obtain ⟨A', c', l, hcs, hc, hr, hw, hb, hs⟩ := bytes_of h
  simp at hcs
  obtain ⟨rfl, rfl, rfl⟩ := hcs
  refine ⟨l, rfl, hc, hr, hw, hb, fun {ts ds j} hsz ht hd => ?_⟩
  rcases hs with h0 | ⟨m, h1, h2⟩
  · omega
  · have := List.all_eq_true.1 hsz m (DataW.weights_mem_each ht hd m h2)
    have h3 : m ≤ reachBytes := by simpa using this
    have h4 : reachBytes = 140737488351232 := rfl
    omega
end
end Go.Proofs.Ytebmfbfmdbimdaa.row8
