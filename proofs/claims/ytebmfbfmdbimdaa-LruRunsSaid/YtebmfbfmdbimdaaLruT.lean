/- Package lru's cache as a list of what it holds, the one used last first: what each call answers and leaves (whole keys). -/
import Derived.Test.YtebmfbfmdbimdaaLru6I
namespace Go.Proofs.Ytebmfbfmdbimdaa.F.Li
open Go.RowKit Go.Proofs.YtebmfbfmdbimdaaW.PrintWords Go.Proofs.YtebmfbfmdbimdaaW.PrintLast Go.Proofs.YtebmfbfmdbimdaaW.PrintMore
set_option linter.unusedVariables false
set_option linter.unusedSimpArgs false
/-- Key, value, size. -/
structure Tr where
  k : Int
  v : Int
  s : Int
def tr (e : Ent) : Tr := ⟨e.k, e.v, e.s⟩
def hasT (k : Int) (T : List Tr) : Bool := T.any (fun t => decide (t.k = k))
def rmT (k : Int) (T : List Tr) : List Tr := T.filter (fun t => decide (t.k ≠ k))
def totT (T : List Tr) : Int := (T.map Tr.s).sum
def usedT (k : Int) (T : List Tr) : List Tr := match T.find? (fun t => decide (t.k = k)) with | some t => t :: rmT k T | none => T
def valT (k : Int) (T : List Tr) : Int := match T.find? (fun t => decide (t.k = k)) with | some t => t.v | none => 0
def fitT (E B : Int) : List Tr → List Tr
  | [] => []
  | t :: T => if 0 < E ∧ t.s ≤ B then t :: fitT (E - 1) (B - t.s) T else []
theorem hasT_map (k : Int) (L : List Ent) : hasK k L = hasT k (L.map tr) := by
  unfold hasK hasT
  rw [List.any_map]
  rfl
theorem rmT_map (k : Int) (L : List Ent) : (rm k L).map tr = rmT k (L.map tr) := by
  unfold rm rmT
  rw [List.filter_map]
  rfl
theorem totT_map (L : List Ent) : tot L = totT (L.map tr) := by
  unfold tot totT
  rw [List.map_map]
  rfl
theorem find_map (k : Int) (L : List Ent) : (L.map tr).find? (fun t => decide (t.k = k)) = (L.find? (fun e => decide (e.k = k))).map tr := by
  rw [List.find?_map]
  rfl
theorem usedT_map (k : Int) (L : List Ent) : (used k L).map tr = usedT k (L.map tr) := by
  unfold used usedT
  rw [find_map]
  cases L.find? (fun e => decide (e.k = k)) with
  | none => rfl
  | some e => simp only [Option.map_some, List.map_cons, rmT_map]
theorem valT_map (k : Int) (L : List Ent) : valOf k L = valT k (L.map tr) := by
  unfold valOf valT
  rw [find_map]
  cases L.find? (fun e => decide (e.k = k)) <;> rfl
theorem totT_cons (t : Tr) (T : List Tr) : totT (t :: T) = t.s + totT T := by simp [totT]
theorem totT_nonneg : ∀ {T : List Tr}, (∀ t ∈ T, 0 ≤ t.s) → 0 ≤ totT T
  | [], _ => by simp [totT]
  | t :: T, h => by
    rw [totT_cons]
    have := h t (by simp)
    have := totT_nonneg (T := T) (fun t' h' => h t' (by simp [h']))
    omega
theorem fit_all : ∀ {T : List Tr} {E B : Int}, (∀ t ∈ T, 0 ≤ t.s) → (T.length : Int) ≤ E → totT T ≤ B → fitT E B T = T
  | [], _, _, _, _, _ => rfl
  | t :: T, E, B, h, h1, h2 => by
    rw [totT_cons] at h2
    have := totT_nonneg (T := T) (fun t' h' => h t' (by simp [h']))
    simp only [List.length_cons, Int.natCast_add, Int.cast_ofNat_Int] at h1
    rw [fitT, if_pos ⟨by omega, by omega⟩, fit_all (fun t' h' => h t' (by simp [h'])) (by omega) (by omega)]
theorem fit_snoc : ∀ {T : List Tr} {t : Tr} {E B : Int}, (E < (T.length : Int) + 1 ∨ B < totT T + t.s) → fitT E B (T ++ [t]) = fitT E B T
  | [], t, E, B, h => by
    simp [totT] at h
    simp only [List.nil_append, fitT]
    rw [if_neg (by omega)]
  | u :: T, t, E, B, h => by
    rw [totT_cons] at h
    simp only [List.length_cons, Int.natCast_add, Int.cast_ofNat_Int] at h
    rw [List.cons_append, fitT, fitT, fit_snoc (T := T) (by omega)]
theorem shr_fit {E B : Int} : ∀ {n : Nat} {L : List Ent}, L.length ≤ n → (∀ e ∈ L, 0 ≤ e.s) → (shr E B n L).map tr = fitT E B (L.map tr)
  | 0, L, h, _ => by
    obtain rfl : L = [] := List.eq_nil_of_length_eq_zero (by omega)
    rfl
  | n + 1, L, h, hp => by
    rw [shr]
    split
    · rename_i hc
      obtain ⟨L1, e, rfl⟩ : ∃ L1 e, L = L1 ++ [e] := ⟨L.dropLast, L.getLast hc.1, (List.dropLast_concat_getLast _).symm⟩
      rw [List.dropLast_concat, shr_fit (by simp at h; omega) (fun e' he' => hp e' (by simp [he'])), List.map_append, List.map_cons, List.map_nil, fit_snoc]
      have h2 := hc.2
      rw [tot_append, tot_cons, show tot [] = 0 from rfl, totT_map L1] at h2
      simp at h2
      simp [tr]
      omega
    · rename_i hc
      by_cases hn : L = []
      · subst hn
        rfl
      · have : ¬ (E < (L.length : Int) ∨ B < tot L) := fun hh => hc ⟨hn, hh⟩
        rw [fit_all]
        · intro t ht
          obtain ⟨e, he, rfl⟩ := List.mem_map.1 ht
          exact hp e he
        · simp
          omega
        · rw [← totT_map]
          omega
/-- All blocks of the cache lie above. -/
def Abv (base c m : Nat) (L : List Ent) : Prop := base ≤ c ∧ base ≤ m ∧ ∀ e ∈ L, base ≤ e.b
theorem Abv.sb {base c m : Nat} {L : List Ent} (h : Abv base c m L) (i : Nat) (hi : Sb c m L i) : base ≤ i := by
  rcases hi with rfl | rfl | ⟨e, he, rfl⟩
  · exact h.2.1
  · exact h.1
  · exact h.2.2 e he
/-- Block c holds a cache that holds T; all its blocks lie above base. -/
def OwnT (base : Nat) (w : World) (c : Nat) (E B : Int) (T : List Tr) : Prop := ∃ m L, Own w c m E B L ∧ Abv base c m L ∧ L.map tr = T
theorem Own.keep {w w' : World} {c m : Nat} {E B : Int} {L : List Ent} (h : Own w c m E B L) (hk : ∀ i, Sb c m L i → w'.heap[i]? = w.heap[i]?) : Own w' c m E B L := by
  obtain ⟨⟨o, n, hN, hR⟩, h2, h3, h4, h5, h6⟩ := h
  exact ⟨⟨o, n, hN.keep (hk c (.inr (.inl rfl))) (fun e he => hk e.b (.inr (.inr ⟨e, he, rfl⟩))), hR⟩, h2, h3, h4.keep (hk m (.inl rfl)), h5, h6⟩
theorem Own.sb_lt {w : World} {c m : Nat} {E B : Int} {L : List Ent} (h : Own w c m E B L) {i : Nat} (hi : Sb c m L i) : i < w.heap.size := by
  obtain ⟨⟨o, n, hN, hR⟩, h2, h3, h4, h5, h6⟩ := h
  rcases hi with rfl | hi
  · exact h4.lt
  · exact hN.lt hi
theorem OwnT.below {base : Nat} {w w' : World} {c : Nat} {E B : Int} {T : List Tr} (h : OwnT base w c E B T) (hb : Below w.heap.size w w') : OwnT base w' c E B T := by
  obtain ⟨m, L, h1, h2, h3⟩ := h
  exact ⟨m, L, h1.keep (fun i hi => hb.block i (h1.sb_lt hi)), h2, h3⟩
/-- A cell of a block of another type is written: the cache stays. -/
theorem OwnT.set {base : Nat} {w : World} {c g : Nat} {E B : Int} {T : List Tr} {cs : Array Value} {ty : TypeId} (h : OwnT base w c E B T) (hg : w.heap[g]? = some (.cells cs ty (0, 0))) (h1 : ty ≠ 80) (h2 : ty ≠ 78) (i : Nat) (v : Value) : OwnT base (w.setCell ⟨g, i, none⟩ v) c E B T := by
  obtain ⟨m, L, hO, ha, hT⟩ := h
  refine ⟨m, L, hO.keep (fun j hj => Below.heap_setCell w _ v j ?_), ha, hT⟩
  obtain ⟨⟨o, n, hN, hR⟩, _, _, hM, _, _⟩ := hO
  rcases hj with rfl | rfl | ⟨e, he, rfl⟩
  · exact hM.ne hg
  · exact blk_ne hN.cb hg (fun hh => h1 hh.symm)
  · exact blk_ne (hN.eb e he).2 hg (fun hh => h2 hh.symm)
theorem OwnT.kn {base : Nat} {w : World} {c : Nat} {E B : Int} {T : List Tr} (h : OwnT base w c E B T) : (T.map Tr.k).Nodup ∧ (∀ t ∈ T, 0 ≤ t.s) ∧ (∀ t ∈ T, (Lit.int .i64 t.k).wf = true) := by
  obtain ⟨m, L, hO, ha, rfl⟩ := h
  refine ⟨?_, ?_, ?_⟩
  · rw [List.map_map]
    exact hO.kn
  · intro t ht
    obtain ⟨e, he, rfl⟩ := List.mem_map.1 ht
    exact hO.pos e he
  · intro t ht
    obtain ⟨e, he, rfl⟩ := List.mem_map.1 ht
    exact map_kok hO.map he
/-- Blocks of cells of other types stay as they were. -/
def Kp (w w' : World) : Prop := ∀ (g : Nat) (cs : Array Value) (ty : TypeId), w.heap[g]? = some (.cells cs ty (0, 0)) → ty ≠ 80 → ty ≠ 78 → w'.heap[g]? = some (.cells cs ty (0, 0))
theorem Kp.of {w w' : World} {c m : Nat} {E B : Int} {L : List Ent} (hO : Own w c m E B L) (h : Fr (Sb c m L) w w') : Kp w w' := by
  intro g cs ty hg h1 h2
  refine (h.block g (blk_lt hg) (fun hj => ?_)).trans hg
  obtain ⟨⟨o, n, hN, hR⟩, _, _, hM, _, _⟩ := hO
  rcases hj with rfl | rfl | ⟨e, he, rfl⟩
  · exact hM.ne hg rfl
  · exact blk_ne hN.cb hg (fun hh => h1 hh.symm) rfl
  · exact blk_ne (hN.eb e he).2 hg (fun hh => h2 hh.symm) rfl
/-- What a call that turns the cache leaves. -/
def Trn (base : Nat) (w w' : World) : Prop := Below base w w' ∧ Kp w w'
section
variable {base : Nat} {w : World} {c : Nat} {E B : Int} {T : List Tr}
theorem get_T (h : OwnT base w c E B T) (hb : base ≤ w.heap.size) {k : Int} (hk : (Lit.int .i64 k).wf = true) :
    Calls Try.prog 12 #[.pointer (some ⟨c, 0, none⟩), .int .i64 k] w fun x w' => x = .returned (.tuple #[.int .i64 (valT k T), .bool (hasT k T)]) ∧ OwnT base w' c E B (usedT k T) ∧ Trn base w w' := by
  obtain ⟨m, L, hO, ha, rfl⟩ := h
  refine (get.calls hO hk).mono ?_
  rintro x w' ⟨rfl, h1, h2⟩
  rw [valT_map, hasT_map]
  refine ⟨rfl, ⟨m, _, h1, ⟨ha.1, ha.2.1, fun e he => ?_⟩, usedT_map k L⟩, ⟨h2.below (fun i hi => ha.sb i hi) hb, Kp.of hO h2⟩⟩
  unfold used at he
  split at he
  · rename_i e' hf
    rcases List.mem_cons.1 he with rfl | he
    · exact ha.2.2 _ (List.mem_of_find?_eq_some hf)
    · exact ha.2.2 _ (mem_rm.1 he).1
  · exact ha.2.2 _ he
theorem drop_T (h : OwnT base w c E B T) (hb : base ≤ w.heap.size) {k : Int} (hk : (Lit.int .i64 k).wf = true) :
    Calls Try.prog 16 #[.pointer (some ⟨c, 0, none⟩), .int .i64 k] w fun x w' => x = .returned (.bool (hasT k T)) ∧ OwnT base w' c E B (rmT k T) ∧ Trn base w w' := by
  obtain ⟨m, L, hO, ha, rfl⟩ := h
  refine (drop.calls hO hk).mono ?_
  rintro x w' ⟨rfl, h1, h2⟩
  rw [hasT_map]
  exact ⟨rfl, ⟨m, _, h1, ⟨ha.1, ha.2.1, fun e he => ha.2.2 _ (mem_rm.1 he).1⟩, rmT_map k L⟩, ⟨h2.below (fun i hi => ha.sb i hi) hb, Kp.of hO h2⟩⟩
def putOk (E B sz : Int) : Bool := !(decide (sz < 0) || decide (B < sz) || decide (E = 0))
def putT (E B k v sz : Int) (T : List Tr) : List Tr := if putOk E B sz then ⟨k, v, sz⟩ :: fitT (E - 1) (B - sz) (rmT k T) else rmT k T
theorem put_T (h : OwnT base w c E B T) (hb : base ≤ w.heap.size) {k : Int} (hk : (Lit.int .i64 k).wf = true) (v sz : Int) (h1 : 0 ≤ E) (h4 : E ≤ 9223372036854775807) (h5 : B ≤ 9223372036854775807) (hlen : T.length < maxLen) :
    Calls Try.prog 11 #[.pointer (some ⟨c, 0, none⟩), .int .i64 k, .int .i64 v, .int .i64 sz] w fun x w' => x = .returned (.bool (putOk E B sz)) ∧ OwnT base w' c E B (putT E B k v sz T) ∧ Trn base w w' := by
  obtain ⟨m, L, hO, ha, rfl⟩ := h
  unfold putT
  by_cases hp : putOk E B sz = true
  · have hq := hp
    simp only [putOk, Bool.not_eq_true', Bool.or_eq_false_iff, decide_eq_false_iff_not] at hq
    refine (put_yes hO hk v sz (by omega) (by omega) (by omega) h4 h5 (by simpa using hlen)).mono ?_
    rintro x w' ⟨rfl, ⟨b, hb1, g1⟩, g2⟩
    rw [hp, if_pos rfl]
    refine ⟨rfl, ⟨m, _, g1, ⟨ha.1, ha.2.1, fun e he => ?_⟩, ?_⟩, ⟨g2.below (fun i hi => ha.sb i hi) hb, Kp.of hO g2⟩⟩
    · rcases List.mem_cons.1 he with rfl | he
      · exact Nat.le_trans hb hb1
      · exact ha.2.2 _ (mem_rm.1 (shr_sub he)).1
    · rw [List.map_cons, shr_fit (Nat.le_refl _) (fun e he => hO.pos e (mem_rm.1 he).1), rmT_map]
      rfl
  · have hp : putOk E B sz = false := by simpa using hp
    have hq := hp
    simp only [putOk, Bool.not_eq_false', Bool.or_eq_true, decide_eq_true_eq] at hq
    refine (put_no hO hk v sz (by omega)).mono ?_
    rintro x w' ⟨rfl, g1, g2⟩
    rw [hp, if_neg (by simp)]
    exact ⟨rfl, ⟨m, _, g1, ⟨ha.1, ha.2.1, fun e he => ha.2.2 _ (mem_rm.1 he).1⟩, rmT_map k L⟩, ⟨g2.below (fun i hi => ha.sb i hi) hb, Kp.of hO g2⟩⟩
theorem limit_T (h : OwnT base w c E B T) (hb : base ≤ w.heap.size) (E' B' : Int) (h1 : 0 ≤ E') (h2 : 0 ≤ B') (h3 : E' ≤ 9223372036854775807) (h4 : B' ≤ 9223372036854775807) :
    Calls Try.prog 17 #[.pointer (some ⟨c, 0, none⟩), .int .i64 E', .int .i64 B'] w fun x w' => x = .returned (.int .i64 0) ∧ OwnT base w' c E' B' (fitT E' B' T) ∧ Trn base w w' := by
  obtain ⟨m, L, hO, ha, rfl⟩ := h
  refine (limit_yes hO E' B' h1 h2 h3 h4).mono ?_
  rintro x w' ⟨rfl, g1, g2⟩
  exact ⟨rfl, ⟨m, _, g1, ⟨ha.1, ha.2.1, fun e he => ha.2.2 _ (shr_sub he)⟩, shr_fit (Nat.le_refl _) hO.pos⟩, ⟨g2.below (fun i hi => ha.sb i hi) hb, Kp.of hO g2⟩⟩
theorem clear_T (h : OwnT base w c E B T) (hb : base ≤ w.heap.size) :
    Calls Try.prog 19 #[.pointer (some ⟨c, 0, none⟩)] w fun x w' => x = .returned (.tuple #[]) ∧ OwnT base w' c E B [] ∧ Trn base w w' := by
  obtain ⟨m, L, hO, ha, rfl⟩ := h
  obtain ⟨o, n, hN, hR⟩ := hO.nodes
  refine (clear.calls hN.cb).mono ?_
  rintro x w' ⟨rfl, g1, g2⟩
  exact ⟨rfl, ⟨_, [], g1, ⟨ha.1, hb, fun e he => by simp at he⟩, rfl⟩, ⟨g2.below (fun i hi => by rw [hi]; exact ha.1) hb, Kp.of hO (g2.mono (fun _ hh => .inr (.inl hh)))⟩⟩
theorem len_T (h : OwnT base w c E B T) : Calls Try.prog 22 #[.pointer (some ⟨c, 0, none⟩)] w fun x w' => x = .returned (.int .i64 (T.length : Int)) ∧ w' = w := by
  obtain ⟨m, L, hO, ha, rfl⟩ := h
  rw [List.length_map]
  exact len.calls hO
theorem bytes_T (h : OwnT base w c E B T) : Calls Try.prog 23 #[.pointer (some ⟨c, 0, none⟩)] w fun x w' => x = .returned (.int .i64 (totT T)) ∧ w' = w := by
  obtain ⟨m, L, hO, ha, rfl⟩ := h
  rw [← totT_map]
  exact bytes.calls hO
theorem keys_T (h : OwnT base w c E B T) (hl : T.length * 8 ≤ 140737488355328) : Calls Try.prog 21 #[.pointer (some ⟨c, 0, none⟩)] w fun x w' => ∃ v, x = .returned v ∧ w'.ownsRow w.heap.size 3 1 v (T.map Tr.k).length (nums .i64 (T.map Tr.k)) ∧ Below w.heap.size w w' := by
  obtain ⟨m, L, hO, ha, rfl⟩ := h
  refine (keys.calls hO (by simpa using hl)).mono ?_
  rintro x w' ⟨v, rfl, g1, g2⟩
  refine ⟨v, rfl, ?_, g2⟩
  have e : nums .i64 ((L.map tr).map Tr.k) = L.map (fun e => kv e.k) := by
    unfold nums
    rw [List.map_map, List.map_map]
    rfl
  rw [e]
  simpa using g1
end
theorem new_T {w : World} (E B : Int) (h1 : 0 ≤ E) (h2 : 0 ≤ B) (h3 : E ≤ 9223372036854775807) (h4 : B ≤ 9223372036854775807) :
    Calls Try.prog 10 #[.int .i64 E, .int .i64 B] w fun x w' => ∃ c, x = .returned (.tuple #[.pointer (some ⟨c, 0, none⟩), .int .i64 0]) ∧ OwnT w.heap.size w' c E B [] ∧ Below w.heap.size w w' := by
  refine (new_yes E B h1 h2 h3 h4).mono ?_
  rintro x w' ⟨c, m, rfl, g1, g2, g3, g4⟩
  exact ⟨c, rfl, ⟨m, [], g3, ⟨g1, g2, fun e he => by simp at he⟩, rfl⟩, g4⟩
end Go.Proofs.Ytebmfbfmdbimdaa.F.Li
