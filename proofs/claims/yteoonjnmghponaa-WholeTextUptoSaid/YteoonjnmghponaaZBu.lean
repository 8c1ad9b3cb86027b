/- What the bound on an input gives: how many values and letters it may hold. (Began as the seat page's own UptoLemmas text.) An argument that is bytes, opened. -/
import Derived.Test.YteoonjnmghponaaRows
import Derived.Test.YteoonjnmghponaaZUb
import Derived.WalkKit
import Derived.ProofKit
import Derived.OpenShut
import Derived.SizedLaws
import Derived.Test.YteoonjnmghponaaWSized
namespace Go.Proofs.Yteoonjnmghponaa.bulks

theorem one_le {H : Type} (d : DataW H) : 1 ≤ Rows.uptoBulk d := by
  cases d with
  | lit l => cases l <;> simp [Rows.uptoBulk]
  | nil => simp [Rows.uptoBulk]
  | ptr d => simp [Rows.uptoBulk]
  | slice elems spare => simp [Rows.uptoBulk]
  | agg parts => simp [Rows.uptoBulk]
  | iface t d => simp [Rows.uptoBulk]
  | map entries => simp [Rows.uptoBulk]
  | held h => simp [Rows.uptoBulk]

/-- a part's bulk is at most the whole's -/
theorem part_le {H : Type} {d : DataW H} {l : List (DataW H)} (h : d ∈ l) : Rows.uptoBulk d ≤ Rows.uptoBulkAll l := by
  induction l with
  | nil => cases h
  | cons x r ih =>
    simp only [Rows.uptoBulkAll]
    cases List.mem_cons.1 h with
    | inl e => subst e; omega
    | inr e => have := ih e; omega

theorem append {H : Type} (l r : List (DataW H)) : Rows.uptoBulkAll (l ++ r) = Rows.uptoBulkAll l + Rows.uptoBulkAll r := by
  induction l with
  | nil => simp [Rows.uptoBulkAll]
  | cons x l ih => simp only [List.cons_append, Rows.uptoBulkAll, ih]; omega

/-- so many values at the most -/
theorem length_le {H : Type} (l : List (DataW H)) : l.length ≤ Rows.uptoBulkAll l := by
  induction l with
  | nil => simp [Rows.uptoBulkAll]
  | cons x r ih => have := one_le x; simp only [Rows.uptoBulkAll, List.length_cons]; omega

/-- a slice's places, and what they hold -/
theorem slice_le {H : Type} (elems spare : List (DataW H)) : elems.length + spare.length + 1 ≤ Rows.uptoBulk (.slice elems spare) := by
  have h1 := length_le elems
  have h2 := length_le spare
  simp only [Rows.uptoBulk]
  omega
theorem slice_elems {H : Type} (elems spare : List (DataW H)) : Rows.uptoBulkAll elems + 1 ≤ Rows.uptoBulk (.slice elems spare) := by
  simp only [Rows.uptoBulk]
  omega

/-- a string's letters -/
theorem string_eq {H : Type} (bytes : List UInt8) : Rows.uptoBulk (DataW.lit (H := H) (.string bytes)) = bytes.length + 1 := by
  simp [Rows.uptoBulk]

/-- THE BOUND, as the builder hands it over ('hk') -/
theorem bound {H : Type} {l : List (DataW H)} (hk : Rows.uptoSmall H l = true) : Rows.uptoBulkAll l ≤ 1048576 := by
  simpa [Rows.uptoSmall] using hk

/-- ROOM: a slice of n elements of b bytes, grown by append: below the 2^48 bytes that append, make and a Builder bear. Here n up to 2^21, b up to 4,096: put your own numbers. -/
theorem room {n b : Nat} (hn : n ≤ 2097152) (hb : b ≤ 4096) : (n + n / 4 + 192) * b ≤ 281474976710656 := by
  have h : (n + n / 4 + 192) * b ≤ 2621632 * 4096 := Nat.mul_le_mul (by omega) hb
  omega

end Go.Proofs.Yteoonjnmghponaa.bulks
namespace Go.Proofs.Yteoonjnmghponaa.row8
open Go.ChangeShapes Go.WideShapes Go.ChangeAt Go.RowKit Go.Proofs.YteoonjnmghponaaW.PrintWords Go.Proofs.YteoonjnmghponaaW.PrintLast Go.Proofs.YteoonjnmghponaaW.PrintMore
set_option linter.unusedVariables false
set_option linter.unusedSimpArgs false
section
variable {H : Type} {enc : TypeId × Value → H} {W : World} {fuel : Nat} {cs : List Value} {x : DataW H × List MemPlace}
theorem bytes_of (h : DataW.trod enc Try.prog W 0 (fun _ => true) true fuel 23 cs = some x) : ∃ (A : Option Addr) (c : Nat) (l : List Int), cs = [.slice A l.length c] ∧ l.length ≤ c ∧ Kd.C (Kd.int .u8) W A l.length l ∧ (∀ z ∈ l, (Lit.int .u8 z).wf = true) ∧
    l.length ≤ Rows.uptoBulk x.1 ∧ (l.length = 0 ∨ ∃ m, l.length ≤ m ∧ m ∈ DataW.weights Try.prog 23 x.1) := by
  rcases open_ints Try.underlying23 Try.underlying5 (by kernel_rfl) h with ⟨rfl, hx⟩ | ⟨a, l, c, zs, rfl, _, hl, hm, hz, hx, hcell, hwz⟩
  · exact ⟨none, 0, [], rfl, Nat.le_refl _, Kd.C_nil _ _, fun _ hz => absurd hz (by simp), Nat.zero_le _, .inl rfl⟩
  · obtain ⟨l0, rfl, hr0, hm0, hw0, hc0⟩ := ReadsInt.ofRowC (k := .u8) (w := W) (a := some a) (len := l) (cap := c) (zs := zs) (.inr ⟨_, rfl, hl, hm, by simpa using hz, hcell, hwz⟩)
    have hlz : l0.length ≤ zs.length := by rw [hz]; simpa using hl
    have hll : (lits (H := H) .u8 (zs.take l0.length)).length + (lits (H := H) .u8 (zs.drop l0.length)).length = zs.length := by simp [lits]; omega
    have hd : x.1 = .slice (lits .u8 (zs.take l0.length)) (lits .u8 (zs.drop l0.length)) := by rw [hx]
    refine ⟨some a, c, l0, rfl, hc0, Kd.C_of_reads (d := (0 : Int)) (h1 := fun _ => rfl) hr0, hw0, ?_, .inr ⟨zs.length, hlz, ?_⟩⟩
    · have hsl := bulks.slice_le (H := H) (lits .u8 (zs.take l0.length)) (lits .u8 (zs.drop l0.length))
      rw [hd]
      omega
    · have hb : Try.prog.bytesOf 5 = 1 := by kernel_rfl
      rw [hd]
      simp only [DataW.weights, Try.underlying23, hll, hb, Nat.mul_one]
      exact List.mem_cons_self
theorem row8_of {A : Option Addr} {n c : Nat} (h : DataW.trod enc Try.prog W 0 (fun _ => true) true fuel 23 [.slice A n c] = some x) : ∃ l : List Int, n = l.length ∧ l.length ≤ c ∧ Kd.C (Kd.int .u8) W A l.length l ∧ (∀ z ∈ l, (Lit.int .u8 z).wf = true) ∧ l.length ≤ Rows.uptoBulk x.1 ∧
    (∀ {ts : List TypeId} {ds : List (DataW H)} {j : Nat}, (DataW.weightsEach Try.prog ts ds).all (· ≤ reachBytes) = true → ts[j]? = some 23 → ds[j]? = some x.1 → l.length ≤ 140737488351232) := by
  obtain ⟨A', c', l, hcs, hc, hr, hw, hb, hs⟩ := bytes_of h
  simp at hcs
  obtain ⟨rfl, rfl, rfl⟩ := hcs
  refine ⟨l, rfl, hc, hr, hw, hb, fun {ts ds j} hsz ht hd => ?_⟩
  rcases hs with h0 | ⟨m, h1, h2⟩
  · omega
  · have := List.all_eq_true.1 hsz m (DataW.weights_mem_each ht hd m h2)
    have h3 : m ≤ reachBytes := by simpa using this
    have h4 : reachBytes = 140737488351232 := rfl
    omega
end
end Go.Proofs.Yteoonjnmghponaa.row8
