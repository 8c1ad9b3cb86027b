/- What the bound on an input gives: how many values and letters it may hold. (Began as the seat page's own UptoLemmas text.) An argument that is rows of knots, opened. -/
import Derived.Test.YteoonjnmghponaaRows
import Derived.Test.YteoonjnmghponaaZHx0
import Derived.WalkKit
import Derived.ProofKit
import Derived.OpenShut
import Derived.SizedLaws
import Derived.Deep.Slices
namespace Go.Proofs.Yteoonjnmghponaa.bulks

theorem one_le {H : Type} (d : DataW H) : 1 ≤ Rows.uptoBulk d := by
  cases d with
  | lit l => cases l <;> simp [Rows.uptoBulk]
  | nil => simp [Rows.uptoBulk]
  | ptr d => simp [Rows.uptoBulk]
  | slice elems spare => simp [Rows.uptoBulk]
  | agg parts => simp [Rows.uptoBulk]
  | iface t d => simp [Rows.uptoBulk]
  | map entries => simp [Rows.uptoBulk]
  | held h => simp [Rows.uptoBulk]

/-- a part's bulk is at most the whole's -/
theorem part_le {H : Type} {d : DataW H} {l : List (DataW H)} (h : d ∈ l) : Rows.uptoBulk d ≤ Rows.uptoBulkAll l := by
  induction l with
  | nil => cases h
  | cons x r ih =>
    simp only [Rows.uptoBulkAll]
    cases List.mem_cons.1 h with
    | inl e => subst e; omega
    | inr e => have := ih e; omega

theorem append {H : Type} (l r : List (DataW H)) : Rows.uptoBulkAll (l ++ r) = Rows.uptoBulkAll l + Rows.uptoBulkAll r := by
  induction l with
  | nil => simp [Rows.uptoBulkAll]
  | cons x l ih => simp only [List.cons_append, Rows.uptoBulkAll, ih]; omega

/-- so many values at the most -/
theorem length_le {H : Type} (l : List (DataW H)) : l.length ≤ Rows.uptoBulkAll l := by
  induction l with
  | nil => simp [Rows.uptoBulkAll]
  | cons x r ih => have := one_le x; simp only [Rows.uptoBulkAll, List.length_cons]; omega

/-- a slice's places, and what they hold -/
theorem slice_le {H : Type} (elems spare : List (DataW H)) : elems.length + spare.length + 1 ≤ Rows.uptoBulk (.slice elems spare) := by
  have h1 := length_le elems
  have h2 := length_le spare
  simp only [Rows.uptoBulk]
  omega
theorem slice_elems {H : Type} (elems spare : List (DataW H)) : Rows.uptoBulkAll elems + 1 ≤ Rows.uptoBulk (.slice elems spare) := by
  simp only [Rows.uptoBulk]
  omega

/-- a string's letters -/
theorem string_eq {H : Type} (bytes : List UInt8) : Rows.uptoBulk (DataW.lit (H := H) (.string bytes)) = bytes.length + 1 := by
  simp [Rows.uptoBulk]

/-- THE BOUND, as the builder hands it over ('hk') -/
theorem bound {H : Type} {l : List (DataW H)} (hk : Rows.uptoSmall H l = true) : Rows.uptoBulkAll l ≤ 1048576 := by
  simpa [Rows.uptoSmall] using hk

/-- ROOM: a slice of n elements of b bytes, grown by append: below the 2^48 bytes that append, make and a Builder bear. Here n up to 2^21, b up to 4,096: put your own numbers. -/
theorem room {n b : Nat} (hn : n ≤ 2097152) (hb : b ≤ 4096) : (n + n / 4 + 192) * b ≤ 281474976710656 := by
  have h : (n + n / 4 + 192) * b ≤ 2621632 * 4096 := Nat.mul_le_mul (by omega) hb
  omega

end Go.Proofs.Yteoonjnmghponaa.bulks
namespace Go.Proofs.Yteoonjnmghponaa.rowK
open Go.ChangeShapes Go.WideShapes Go.ChangeAt Go.RowKit Go.Proofs.YteoonjnmghponaaW.PrintWords Go.Proofs.YteoonjnmghponaaW.PrintLast Go.Proofs.YteoonjnmghponaaW.PrintMore Go.Deep Go.Proofs.Yteoonjnmghponaa.H
set_option linter.unusedVariables false
set_option linter.unusedSimpArgs false
theorem len3 {α : Type} : ∀ {l : List α}, l.length = 3 → ∃ a b c, l = [a, b, c]
  | [a, b, c], _ => ⟨a, b, c, rfl⟩
section
variable {H : Type} {enc : TypeId × Value → H} {W : World} {fuel : Nat} {cs : List Value} {x : DataW H × List MemPlace}
theorem int_of {t : TypeId} {k : IntKind} (ht : Try.prog.underlying t = some (.int k)) {c : Value} {y : Option (DataW H × List MemPlace)} (h : DataW.trod enc Try.prog W 0 (fun _ => true) true fuel t [c] = y) {z : DataW H × List MemPlace} (hy : y = some z) : ∃ n, c = .int k n ∧ (Lit.int k n).wf = true := by
  rw [hy] at h
  obtain ⟨n, hn, _, hw⟩ := DataW.trod_int ht h
  exact ⟨n, by simpa using hn, hw⟩
theorem knot_of (h : DataW.trod enc Try.prog W 0 (fun _ => true) true fuel 70 cs = some x) : ∃ s : S70, cs = [.int .i64 s.f0, .int .i64 s.f1, .int .i64 s.f2] := by
  obtain ⟨xs, m, _, rfl, hlen, hxl, hf⟩ := DataW.trod_struct Try.underlying70 h
  have k3 : Try.prog.cellsOf 3 = 1 := by kernel_rfl
  have kp : Try.prog.cellsOf 70 = 3 := by kernel_rfl
  rw [kp] at hlen
  obtain ⟨c0, c1, c2, rfl⟩ := len3 hlen
  have f0 : DataW.trod enc Try.prog W 0 (fun _ => true) true m 3 (List.take (Try.prog.cellsOf 3) (List.drop 0 [c0, c1, c2])) = xs[0]? := hf 0 _ rfl
  have f1 : DataW.trod enc Try.prog W 0 (fun _ => true) true m 3 (List.take (Try.prog.cellsOf 3) (List.drop 1 [c0, c1, c2])) = xs[1]? := hf 1 _ rfl
  have f2 : DataW.trod enc Try.prog W 0 (fun _ => true) true m 3 (List.take (Try.prog.cellsOf 3) (List.drop 2 [c0, c1, c2])) = xs[2]? := hf 2 _ rfl
  simp only [k3, List.drop_zero, List.drop_succ_cons, List.take_succ_cons, List.take_zero] at f0 f1 f2
  obtain ⟨y0, h0⟩ : ∃ y, xs[0]? = some y := ⟨xs[0]'(by simp [hxl]), by simp [hxl]⟩
  obtain ⟨y1, h1⟩ : ∃ y, xs[1]? = some y := ⟨xs[1]'(by simp [hxl]), by simp [hxl]⟩
  obtain ⟨y2, h2⟩ : ∃ y, xs[2]? = some y := ⟨xs[2]'(by simp [hxl]), by simp [hxl]⟩
  obtain ⟨n0, rfl, w0⟩ := int_of Try.underlying3 f0 h0
  obtain ⟨n1, rfl, w1⟩ := int_of Try.underlying3 f1 h1
  obtain ⟨n2, rfl, w2⟩ := int_of Try.underlying3 f2 h2
  exact ⟨⟨n0, n1, n2⟩, rfl⟩
theorem choose_list {α : Type} {p : Nat → α → Prop} : ∀ n, (∀ i, i < n → ∃ a, p i a) → ∃ l : List α, l.length = n ∧ ∀ i a, l[i]? = some a → p i a
  | 0, _ => ⟨[], rfl, fun i a h => by simp at h⟩
  | n + 1, h => by
    obtain ⟨l, h1, h2⟩ := choose_list n (fun i hi => h i (by omega))
    obtain ⟨a, ha⟩ := h n (by omega)
    refine ⟨l ++ [a], by simp [h1], fun i b hb => ?_⟩
    rcases Nat.lt_or_ge i n with hi | hi
    · rw [List.getElem?_append_left (by omega)] at hb
      exact h2 i b hb
    · rw [List.getElem?_append_right (by omega)] at hb
      obtain ⟨hi2, hb2⟩ := List.getElem?_eq_some_iff.1 hb
      simp at hi2
      have : i = n := by omega
      subst this
      have h0 : i - l.length = 0 := by omega
      simp [h0] at hb
      rw [← hb]
      exact ha
/-- A row of knots. -/
theorem row_of (h : DataW.trod enc Try.prog W 0 (fun _ => true) true fuel 65 cs = some x) : ∃ (A : Option Addr) (c : Nat) (l : List S70), cs = [.slice A l.length c] ∧ l.length ≤ c ∧ Kd.C k70 W A l.length l ∧ l.length ≤ Rows.uptoBulk x.1 := by
  have kp : Try.prog.cellsOf 70 = 3 := by kernel_rfl
  rcases open_slice Try.underlying65 h with ⟨rfl, hx⟩ | ⟨a, len, cap, m, n', D, Pl, rfl, _, hl, hm, hmm, hx, hi⟩
  · exact ⟨none, 0, [], rfl, Nat.le_refl _, ⟨rfl, by decide, fun h => absurd h (by simp)⟩, Nat.zero_le _⟩
  · have hml : len ≤ m := by rw [hmm]; simpa using hl
    obtain ⟨l, hll, hlc⟩ := choose_list (p := fun i (s : S70) => ∀ j u, ([.int .i64 s.f0, .int .i64 s.f1, .int .i64 s.f2] : List Value)[j]? = some u → W.cell? (a.add (i * 3 + j)) = some u) len (fun i hin => by
      obtain ⟨cs', hc, ht'⟩ := hi i (by omega)
      rw [kp] at hc
      obtain ⟨s, rfl⟩ := knot_of ht'
      obtain ⟨_, hcl, hat⟩ := World.cells?_some hc
      refine ⟨s, fun j u hu => ?_⟩
      have hj : j < 3 := (List.getElem?_eq_some_iff.1 hu).1
      rw [← Go.Deep.add_add, hat j hj]
      exact hu)
    subst hll
    refine ⟨some a, cap, l, rfl, hl, ⟨rfl, by simp only [maxLen] at hm; omega, fun _ => ⟨a, rfl, fun j p hp => ⟨_, rfl, k70_mk W p, hlc j p hp⟩⟩⟩, ?_⟩
    have hsl := bulks.slice_le (H := H) ((List.range l.length).map D) ((List.range (m - l.length)).map fun j => D (l.length + j))
    rw [hx]
    simp at hsl
    show l.length ≤ Rows.uptoBulk (DataW.slice _ _)
    omega
/-- Rows of knots. -/
theorem rows_of {A : Option Addr} {n c : Nat} (h : DataW.trod enc Try.prog W 0 (fun _ => true) true fuel 22 [.slice A n c] = some x) : ∃ xs : List (List S70), n = xs.length ∧ xs.length ≤ c ∧ Kd.C (Kd.slice 70 k70) W A xs.length xs ∧ xs.length ≤ Rows.uptoBulk x.1 ∧ ∀ r ∈ xs, r.length ≤ Rows.uptoBulk x.1 := by
  have kp : Try.prog.cellsOf 65 = 1 := by kernel_rfl
  rcases open_slice1 Try.underlying22 kp h with ⟨hcs, hx⟩ | ⟨a, len, cap, m, n', V, D, Pl, hcs, _, hl, hm, hmm, hx, hi⟩
  · simp at hcs
    obtain ⟨rfl, rfl, rfl⟩ := hcs
    exact ⟨[], rfl, Nat.le_refl _, ⟨rfl, by decide, fun h => absurd h (by simp)⟩, Nat.zero_le _, by simp⟩
  · simp at hcs
    obtain ⟨rfl, rfl, rfl⟩ := hcs
    have hml : n ≤ m := by rw [hmm]; simpa using hl
    have hd : x.1 = .slice ((List.range n).map D) ((List.range (m - n)).map fun j => D (n + j)) := by rw [hx]
    obtain ⟨xs, hll, hlc⟩ := choose_list (p := fun i (l : List S70) => (∃ (A : Option Addr) (c : Nat), W.cell? (a.add i) = some (.slice A l.length c) ∧ l.length ≤ c ∧ Kd.C k70 W A l.length l) ∧ l.length ≤ Rows.uptoBulk x.1) n (fun i hin => by
      obtain ⟨hc, ht'⟩ := hi i (by omega)
      obtain ⟨A', c', l, hv, h1, h2, h3⟩ := row_of ht'
      have hv2 : V i = .slice A' l.length c' := by simpa using hv
      refine ⟨l, ⟨A', c', by rw [hc, hv2], h1, h2⟩, Nat.le_trans h3 ?_⟩
      have h4 : Rows.uptoBulk (D i) ≤ Rows.uptoBulkAll ((List.range n).map D) := bulks.part_le (List.mem_map.2 ⟨i, List.mem_range.2 hin, rfl⟩)
      have h5 := bulks.slice_elems ((List.range n).map D) ((List.range (m - n)).map fun j => D (n + j))
      rw [hd]
      show Rows.uptoBulk (D i) ≤ _
      omega)
    subst hll
    refine ⟨xs, rfl, hl, ⟨rfl, by simp only [maxLen] at hm; omega, fun _ => ⟨a, rfl, fun j p hp => ?_⟩⟩, ?_, fun r hr => ?_⟩
    · obtain ⟨⟨A', c', h1, h2, h3⟩, _⟩ := hlc j p hp
      refine ⟨[.slice A' p.length c'], rfl, ⟨A', c', rfl, h2, h3⟩, fun i u hu => ?_⟩
      have hi0 : i = 0 := by
        have := (List.getElem?_eq_some_iff.1 hu).1
        simp at this
        exact this
      subst hi0
      have hu2 : Value.slice A' p.length c' = u := by simpa using hu
      rw [← hu2]
      show W.cell? (a.add (j * 1 + 0)) = _
      rw [Nat.mul_one, Nat.add_zero]
      exact h1
    · have hsl := bulks.slice_le (H := H) ((List.range xs.length).map D) ((List.range (m - xs.length)).map fun j => D (xs.length + j))
      rw [hd]
      simp at hsl
      omega
    · obtain ⟨j, hj, rfl⟩ := List.getElem_of_mem hr
      exact (hlc j _ (List.getElem?_eq_getElem hj)).2
end
end Go.Proofs.Yteoonjnmghponaa.rowK
