/- The document's answer for a cache, as plain functions: what they come to on the list of what is held. -/
import Derived.Test.YtebmfbfmdbimdaaLruTruth
import Derived.Test.YtebmfbfmdbimdaaRx1
namespace Go.Proofs.Ytebmfbfmdbimdaa.F.Li
open Go.RowKit Go.Proofs.YtebmfbfmdbimdaaW.PrintWords Go.Proofs.YtebmfbfmdbimdaaW.PrintLast Go.Proofs.YtebmfbfmdbimdaaW.PrintMore Go.Proofs.Ytebmfbfmdbimdaa.rowQ Go.Proofs.Ytebmfbfmdbimdaa.R
set_option linter.unusedVariables false
set_option linter.unusedSimpArgs false
def s49 (t : Tr) : S49 := ⟨t.k, t.v, t.s⟩
theorem rd_map {T : List Tr} {i : Nat} (h : i < T.length) : rd_T49 (T.map s49) (i : Int) = s49 T[i] := by
  unfold rd_T49
  rw [List.getD_eq_getElem?_getD]
  simp [h]
theorem wrap_nat {i : Nat} (h : i < 9223372036854775807) : wrap64 ((i : Int) + 1) = ((i + 1 : Nat) : Int) := by
  unfold wrap64
  omega
/-- The place of a key, from place i on; -1: it isn't there. -/
def posT (k : Int) : List Tr → Nat → Int
  | [], _ => -1
  | t :: T, i => if t.k = k then (i : Int) else posT k T (i + 1)
theorem at_loop (k : Int) (T : List Tr) (hl : T.length < 9223372036854775807) : ∀ (d i : Nat), i + d = T.length → ∃ kk, serifref23_At.l0 kk k (T.map s49) ((T.map s49).length : Int) (i : Int) = some (posT k (T.drop i) i)
  | 0, i, h => ⟨1, by
    have e : T.drop i = [] := List.drop_eq_nil_of_le (by omega)
    rw [e]
    simp only [serifref23_At.l0, List.length_map]
    rw [if_neg (by omega)]
    rfl⟩
  | d + 1, i, h => by
    obtain ⟨kk, hk⟩ := at_loop k T hl d (i + 1) (by omega)
    refine ⟨kk + 1, ?_⟩
    have hi : i < T.length := by omega
    have hr := rd_map hi
    rw [List.drop_eq_getElem_cons hi]
    simp only [serifref23_At.l0, posT]
    rw [if_pos (by simp; omega), if_pos (by omega), if_pos (by simp; omega), hr, wrap_nat (by omega), hk]
    by_cases hc : T[i].k = k
    · rw [if_pos hc, if_pos (by exact hc)]
    · rw [if_neg hc, if_neg (by exact hc)]
theorem at_f (k : Int) (T : List Tr) (E B : Int) (hl : T.length < 9223372036854775807) : ∃ kk, serifref23_At.f kk (T.map s49) E B k = some (posT k T 0) := by
  obtain ⟨kk, h⟩ := at_loop k T hl T.length 0 (by omega)
  exact ⟨kk, h⟩
theorem posT_no {k : Int} : ∀ {T : List Tr} {i : Nat}, hasT k T = false → posT k T i = -1
  | [], _, _ => rfl
  | t :: T, i, h => by
    simp only [hasT, List.any_cons, Bool.or_eq_false_iff, decide_eq_false_iff_not] at h
    rw [posT, if_neg h.1]
    exact posT_no h.2
theorem posT_yes {k : Int} : ∀ {T : List Tr} {i : Nat}, hasT k T = true → ∃ T1 t T2, T = T1 ++ t :: T2 ∧ t.k = k ∧ hasT k T1 = false ∧ posT k T i = ((i + T1.length : Nat) : Int)
  | [], _, h => by simp [hasT] at h
  | t :: T, i, h => by
    by_cases hk : t.k = k
    · exact ⟨[], t, T, rfl, hk, rfl, by rw [posT, if_pos hk]; rfl⟩
    · have h2 : hasT k T = true := by
        simp only [hasT, List.any_cons, Bool.or_eq_true, decide_eq_true_eq] at h ⊢
        exact h.resolve_left hk
      obtain ⟨T1, u, T2, rfl, h3, h4, h5⟩ := posT_yes (i := i + 1) h2
      refine ⟨t :: T1, u, T2, rfl, h3, ?_, ?_⟩
      · simp only [hasT, List.any_cons, Bool.or_eq_false_iff, decide_eq_false_iff_not] at h4 ⊢
        exact ⟨hk, h4⟩
      · rw [posT, if_neg hk, h5, List.length_cons]
        omega
theorem totT_append (T U : List Tr) : totT (T ++ U) = totT T + totT U := by simp [totT]
theorem held_loop (T : List Tr) (hl : T.length < 9223372036854775807) (hp : ∀ t ∈ T, 0 ≤ t.s) (ht : totT T ≤ 9223372036854775807) : ∀ (d i : Nat) (s : Int), i + d = T.length → s + totT (T.drop i) = totT T → 0 ≤ s → ∃ kk, serifref23_Held.l0 kk s (T.map s49) ((T.map s49).length : Int) (i : Int) = some (totT T)
  | 0, i, s, h, h1, _ => ⟨1, by
    have e : T.drop i = [] := List.drop_eq_nil_of_le (by omega)
    rw [e] at h1
    simp only [serifref23_Held.l0, List.length_map]
    rw [if_neg (by omega)]
    rw [← h1]
    simp [totT]⟩
  | d + 1, i, s, h, h1, h2 => by
    have hi : i < T.length := by omega
    rw [List.drop_eq_getElem_cons hi, totT_cons] at h1
    have hs := hp _ (List.getElem_mem hi)
    have hn := totT_nonneg (T := T.drop (i + 1)) (fun t ht => hp t (List.mem_of_mem_drop ht))
    obtain ⟨kk, hk⟩ := held_loop T hl hp ht d (i + 1) (s + T[i].s) (by omega) (by omega) (by omega)
    refine ⟨kk + 1, ?_⟩
    have hr := rd_map hi
    have hw : wrap64 (s + T[i].s) = s + T[i].s := wrap_in (by omega) (by omega)
    simp only [serifref23_Held.l0]
    rw [if_pos (by simp; omega), if_pos (by omega), if_pos (by simp; omega), hr, wrap_nat (by omega)]
    show serifref23_Held.l0 kk (wrap64 (s + T[i].s)) _ _ _ = _
    rw [hw, hk]
theorem held_f (T : List Tr) (E B : Int) (hl : T.length < 9223372036854775807) (hp : ∀ t ∈ T, 0 ≤ t.s) (ht : totT T ≤ 9223372036854775807) : ∃ kk, serifref23_Held.f kk (T.map s49) E B = some (totT T) := by
  obtain ⟨kk, h⟩ := held_loop T hl hp ht T.length 0 0 (by omega) (by simp) (by omega)
  exact ⟨kk, h⟩
theorem same_loop (l : List Int) (hl : l.length < 9223372036854775807) : ∀ (d i : Nat), i + d = l.length → ∃ kk, serifref02_SameInts.l0 kk l l (l.length : Int) (i : Int) = some true
  | 0, i, h => ⟨1, by
    simp only [serifref02_SameInts.l0]
    rw [if_neg (by omega)]⟩
  | d + 1, i, h => by
    obtain ⟨kk, hk⟩ := same_loop l hl d (i + 1) (by omega)
    refine ⟨kk + 1, ?_⟩
    simp only [serifref02_SameInts.l0]
    rw [if_pos (by omega), if_pos (by omega), if_pos (by omega), if_pos (by omega), if_pos trivial, wrap_nat (by omega), hk]
theorem same_f (l : List Int) (hl : l.length < 9223372036854775807) : ∃ kk, serifref02_SameInts.f kk l l = some true := by
  obtain ⟨kk, h⟩ := same_loop l hl l.length 0 (by omega)
  exact ⟨kk, by unfold serifref02_SameInts.f; rw [if_pos rfl]; exact h⟩
/-- The document's loop: as many of the first as fit. -/
theorem fit_loop (T : List Tr) (E B : Int) (hl : T.length < 5864062014805) (hp : ∀ t ∈ T, 0 ≤ t.s) (hE : E ≤ 9223372036854775807) (hB0 : 0 ≤ B) (hB : B ≤ 9223372036854775807) : ∀ (d i : Nat) (s : Int), i + d = T.length → s = totT (T.take i) → s ≤ B →
    ∃ kk, serifref23_Fit.l0 kk (i : Int) s (T.map s49) ((T.map s49).length : Int) (i : Int) (T.map s49) E B = some ((T.take i ++ fitT (E - i) (B - s) (T.drop i)).map s49, E, B)
  | 0, i, s, h, h1, h2 => ⟨1, by
    have e : T.drop i = [] := List.drop_eq_nil_of_le (by omega)
    rw [e]
    simp only [serifref23_Fit.l0, List.length_map, Option.bind_some, fitT, List.append_nil, Int.toNat_natCast]
    rw [if_neg (by omega), if_pos (by omega), if_pos (by omega), if_pos (by simp; omega), List.map_take, List.nil_append]⟩
  | d + 1, i, s, h, h1, h2 => by
    have hi : i < T.length := by omega
    have hs := hp _ (List.getElem_mem hi)
    have hn := totT_nonneg (T := T.take i) (fun t ht => hp t (List.mem_of_mem_take ht))
    have hr := rd_map hi
    have hq : wrap64 (B - s) = B - s := wrap_in (by omega) (by omega)
    have hstop : (if ([] : List S49).length + ((T.map s49).take ((i : Int)).toNat).length < 5864062014805 then some (([] : List S49) ++ (T.map s49).take ((i : Int)).toNat, E, B) else none) = some ((T.take i).map s49, E, B) := by
      rw [if_pos (by simp; omega), List.nil_append, Int.toNat_natCast, List.map_take]
    rw [List.drop_eq_getElem_cons hi, fitT]
    by_cases hc : E ≤ (i : Int)
    · refine ⟨1, ?_⟩
      simp only [serifref23_Fit.l0, Option.bind_some]
      rw [if_pos (by simp; omega), if_pos (by omega), if_pos (by simp; omega), if_pos (by omega), if_pos (by omega), if_pos (by simp; omega), hstop, if_neg (by omega), List.append_nil]
    · by_cases hd : B - s < T[i].s
      · refine ⟨1, ?_⟩
        simp only [serifref23_Fit.l0, Option.bind_some]
        rw [if_pos (by simp; omega), if_pos (by omega), if_pos (by simp; omega), if_neg (by omega), hq, hr, if_pos (by exact hd), if_pos (by omega), if_pos (by simp; omega), hstop, if_neg (by omega), List.append_nil]
      · obtain ⟨kk, hk⟩ := fit_loop T E B hl hp hE hB0 hB d (i + 1) (s + T[i].s) (by omega) (by
          rw [h1, List.take_succ_eq_append_getElem hi, totT_append, totT_cons]
          simp [totT]) (by omega)
        have e1 : E - (i : Int) - 1 = E - ((i + 1 : Nat) : Int) := by omega
        have e2 : B - s - T[i].s = B - (s + T[i].s) := by omega
        refine ⟨kk + 1, ?_⟩
        have hw : wrap64 (s + T[i].s) = s + T[i].s := wrap_in (by omega) (by omega)
        simp only [serifref23_Fit.l0]
        rw [if_pos (by simp; omega), if_pos (by omega), if_pos (by simp; omega), if_neg (by omega), hq, hr, if_neg (by exact hd), wrap_nat (by omega)]
        show serifref23_Fit.l0 kk _ (wrap64 (s + T[i].s)) _ _ _ _ _ _ = _
        rw [hw, hk, if_pos ⟨by omega, by omega⟩, List.take_succ_eq_append_getElem hi, List.append_assoc, e1, e2]
        rfl
theorem fit_f (T : List Tr) (E B : Int) (hl : T.length < 5864062014805) (hp : ∀ t ∈ T, 0 ≤ t.s) (hE : E ≤ 9223372036854775807) (hB0 : 0 ≤ B) (hB : B ≤ 9223372036854775807) : ∃ kk, serifref23_Fit.f kk (T.map s49) E B = some ((fitT E B T).map s49, E, B) := by
  obtain ⟨kk, h⟩ := fit_loop T E B hl hp hE hB0 hB T.length 0 0 (by omega) (by simp [totT]) hB0
  refine ⟨kk, ?_⟩
  unfold serifref23_Fit.f
  simpa using h
end Go.Proofs.Ytebmfbfmdbimdaa.F.Li
