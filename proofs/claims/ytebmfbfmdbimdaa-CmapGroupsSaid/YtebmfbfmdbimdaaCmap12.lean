/- CmapGroups: what the law wants of a code, in plain numbers. -/
import Derived.Test.YtebmfbfmdbimdaaCmap11
namespace Go.Proofs.Ytebmfbfmdbimdaa.F
open Go.RowKit Go.Proofs.YtebmfbfmdbimdaaW.PrintWords Go.Proofs.YtebmfbfmdbimdaaW.PrintLast Go.Proofs.YtebmfbfmdbimdaaW.PrintMore Go.Proofs.Ytebmfbfmdbimdaa.D Go.Proofs.Ytebmfbfmdbimdaa.rowQ
set_option linter.unusedVariables false
set_option linter.unusedSimpArgs false
/-- What the law wants behind n groups. -/
def wantN (same : Bool) (code : Int) (L : List S56) : Nat → Int
  | 0 => 0
  | n + 1 => if (L.getD n z56).f0 ≤ code ∧ code ≤ (L.getD n z56).f1 then (L.getD n z56).f2 + (if same then 0 else code - (L.getD n z56).f0) else wantN same code L n
theorem want_none {same : Bool} {code : Int} {L : List S56} : ∀ n, (∀ i, i < n → ¬ ((L.getD i z56).f0 ≤ code ∧ code ≤ (L.getD i z56).f1)) → wantN same code L n = 0
  | 0, _ => rfl
  | n + 1, h => by
    rw [wantN, if_neg (h n (by omega))]
    exact want_none n (fun i hi => h i (by omega))
theorem want_some {same : Bool} {code : Int} {L : List S56} {i : Nat} (hin : (L.getD i z56).f0 ≤ code ∧ code ≤ (L.getD i z56).f1) : ∀ n, i < n → (∀ j, j < n → j ≠ i → ¬ ((L.getD j z56).f0 ≤ code ∧ code ≤ (L.getD j z56).f1)) →
    wantN same code L n = (L.getD i z56).f2 + (if same then 0 else code - (L.getD i z56).f0)
  | 0, h, _ => absurd h (Nat.not_lt_zero _)
  | n + 1, h, ho => by
    rw [wantN]
    by_cases hn : i = n
    · subst hn
      rw [if_pos hin]
    · rw [if_neg (ho n (by omega) (fun e => hn e.symm))]
      exact want_some hin n (by omega) (fun j hj hji => ho j (by omega) hji)
theorem up_lt {L : List S56} (h : Good L) : ∀ a b, a < b → b < L.length → (L.getD a z56).f1 < (L.getD b z56).f0 := by
  intro a b hab hb
  have h1 := up_mono h a (b - 1) (by omega) (by omega)
  have h2 := (h.up b hb).2.2
  obtain ⟨c, rfl⟩ : ∃ c, b = c + 1 := ⟨b - 1, by omega⟩
  have h3 : prevT L (c + 1) = (L.getD c z56).f1 := rfl
  rw [show c + 1 - 1 = c by omega] at h1
  omega
theorem up_pos {L : List S56} (h : Good L) {i : Nat} (hi : i < L.length) : 0 ≤ (L.getD i z56).f0 := (fits_at h hi).1.1
/-- The program's answer is the law's. -/
theorem glyph_want {f : Int} {same : Bool} {code : Int} {L : List S56} (h : Good L) (hf : f = if same then 13 else 12) : glyphOf (lg f L) 4096 code = if 4096 ≤ wantN same code L L.length then 0 else wantN same code L L.length := by
  by_cases ho : code < 0 ∨ 1114111 < code
  · have hw : wantN same code L L.length = 0 := want_none _ (fun i hi hh => by
      have h1 := (h.up i hi).2.1
      have h2 := up_pos h hi
      omega)
    rw [hw]
    unfold glyphOf
    rw [if_pos ho]
    rfl
  · unfold glyphOf
    rw [if_neg ho]
    by_cases hex : ∃ i, i < L.length ∧ code ≤ (L.getD i z56).f1
    · -- the first one
      obtain ⟨i, ⟨hi, hc⟩, hmin⟩ : ∃ i, (i < L.length ∧ code ≤ (L.getD i z56).f1) ∧ ∀ j, j < i → ¬ (j < L.length ∧ code ≤ (L.getD j z56).f1) := by
        obtain ⟨i, hi⟩ := hex
        induction i using Nat.strongRecOn with
        | ind i ih =>
          by_cases hm : ∃ j, j < i ∧ (j < L.length ∧ code ≤ (L.getD j z56).f1)
          · obtain ⟨j, hj, hj2⟩ := hm
            exact ih j hj hj2
          · exact ⟨i, hi, fun j hj hh => hm ⟨j, hj, hh⟩⟩
      have hfi := find_at (L := lg f L) (code := code) (i := i) (by rw [lg_len]; omega) (fun t ht => by
        have := hmin t ht
        rw [lg_at f L (show t < L.length by omega)]
        show (L.getD t z56).f1 < code
        have : ¬ code ≤ (L.getD t z56).f1 := fun hh => this ⟨by omega, hh⟩
        omega) (fun _ => by rw [lg_at f L hi]; exact hc)
      rw [hfi, lg_len, if_pos hi, lg_at f L hi]
      show (if (L.getD i z56).f0 ≤ code then (if (L.getD i z56).f2 + (13 - f) * (code - (L.getD i z56).f0) < 4096 then (L.getD i z56).f2 + (13 - f) * (code - (L.getD i z56).f0) else 0) else 0) = _
      have hoth : ∀ j, j < L.length → j ≠ i → ¬ ((L.getD j z56).f0 ≤ code ∧ code ≤ (L.getD j z56).f1) := by
        intro j hj hji hh
        rcases Nat.lt_or_gt_of_ne hji with hlt | hgt
        · exact hmin j hlt ⟨hj, hh.2⟩
        · have := up_lt h i j hgt hj
          omega
      by_cases hin : (L.getD i z56).f0 ≤ code
      · rw [if_pos hin, want_some ⟨hin, hc⟩ L.length hi hoth]
        cases same
        · have hf2 : f = 12 := hf
          subst hf2
          simp only [Bool.false_eq_true, if_false]
          rw [show ((13 : Int) - 12) * (code - (L.getD i z56).f0) = code - (L.getD i z56).f0 by omega]
          split <;> split <;> omega
        · have hf2 : f = 13 := hf
          subst hf2
          simp only [if_true]
          rw [show ((13 : Int) - 13) * (code - (L.getD i z56).f0) = 0 by omega]
          split <;> split <;> omega
      · rw [if_neg hin, want_none L.length (fun j hj hh => by
          by_cases hji : j = i
          · subst hji
            exact hin hh.1
          · exact hoth j hj hji hh)]
        rfl
    · have hfi := find_at (L := lg f L) (code := code) (i := L.length) (by rw [lg_len]; omega) (fun t ht => by
        rw [lg_at f L ht]
        show (L.getD t z56).f1 < code
        have : ¬ code ≤ (L.getD t z56).f1 := fun hh => hex ⟨t, ht, hh⟩
        omega) (fun hh => by rw [lg_len] at hh; omega)
      rw [hfi, lg_len, if_neg (Nat.lt_irrefl _), want_none L.length (fun j hj hh => hex ⟨j, hj, hh.2⟩)]
      rfl
end Go.Proofs.Ytebmfbfmdbimdaa.F
