/- Package lru's cache: a key put (keys: int). -/
import Derived.Test.YtebmfbfmdbimdaaLru4I
namespace Go.Proofs.Ytebmfbfmdbimdaa.F.Li
open Go.RowKit Go.Proofs.YtebmfbfmdbimdaaW.PrintWords Go.Proofs.YtebmfbfmdbimdaaW.PrintLast Go.Proofs.YtebmfbfmdbimdaaW.PrintMore
set_option linter.unusedVariables false
set_option linter.unusedSimpArgs false
theorem shr_fits {E' B' : Int} (h1 : 0 ≤ E') (h2 : 0 ≤ B') : ∀ {n : Nat} {L : List Ent}, L.length ≤ n → ((shr E' B' n L).length : Int) ≤ E' ∧ tot (shr E' B' n L) ≤ B'
  | 0, L, h => by
    obtain rfl : L = [] := List.eq_nil_of_length_eq_zero (by omega)
    exact ⟨by simpa [shr] using h1, by simpa [shr, tot] using h2⟩
  | n + 1, L, h => by
    rw [shr]
    split
    · exact shr_fits h1 h2 (by rw [List.length_dropLast]; omega)
    · rename_i hc
      by_cases hn : L = []
      · subst hn
        exact ⟨by simpa using h1, by simpa [tot] using h2⟩
      · have : ¬ (E' < (L.length : Int) ∨ B' < tot L) := fun hh => hc ⟨hn, hh⟩
        omega
theorem shr_len {E' B' : Int} : ∀ {n : Nat} {L : List Ent}, (shr E' B' n L).length ≤ L.length
  | 0, L => Nat.le_refl _
  | n + 1, L => by
    rw [shr]
    split
    · exact Nat.le_trans shr_len (by rw [List.length_dropLast]; omega)
    · exact Nat.le_refl _
/-- A node put first, whatever its own links were. -/
theorem use.gen {w : World} {c m : Nat} {E B H : Int} {L : List Ent} {o n : Nat → Nat} {e : Ent} {x3 x4 : Value} (hcb : w.heap[c]? = some (.cells #[.map (some m), .int .i64 0, .int .i64 0, .int .i64 0, ptr c (n c), ptr c (o c), .int .i64 E, .int .i64 B, .int .i64 H] 80 (0, 0)))
    (hb : w.heap[e.b]? = some (.cells #[kv e.k, .int .i64 e.v, .int .i64 e.s, x3, x4] 78 (0, 0))) (hne : e.b ≠ c) (he : e ∈ L) (h4 : Sn c L (o c))
    (h2 : Nodes ((w.setCell ⟨e.b, 3, none⟩ (ptr c c)).setCell ⟨e.b, 4, none⟩ (ptr c (o c))) c m E B H L (upd o e.b (o c)) (upd n e.b c)) :
    Calls Try.prog 36 #[.pointer (some ⟨c, 0, none⟩), .pointer (some ⟨e.b, 0, none⟩)] w fun x w' => x = .returned (.tuple #[]) ∧ Nodes w' c m E B H L (upd (upd o e.b (o c)) c e.b) (upd (upd n e.b c) (o c) e.b) ∧ Fr (Sn c L) w w' := by
  have c5 : w.cell? ⟨c, 5, none⟩ = some (.pointer (some ⟨o c, off c (o c), none⟩)) := (blk_cell hcb 5).trans rfl
  have d3 : w.cell? ⟨e.b, 3, none⟩ = some x3 := (blk_cell hb 3).trans rfl
  have f3 := blk_frozen hb 3
  have hse : Sn c L e.b := .inr ⟨e, he, rfl⟩
  have hb1 := blk_set hb 3 (ptr c c)
  have d4 := (blk_cell hb1 4).trans rfl
  have f4 := blk_frozen hb1 4
  have hf2 := ((Fr.refl (Sn c L) w).set (p := ⟨e.b, 3, none⟩) hse (ptr c c)).set (p := ⟨e.b, 4, none⟩) hse (ptr c (o c))
  unfold ptr at d4 h2 hf2 f4
  rw [off_c] at d4 h2 hf2 f4
  have HN2 := Aside0.mk h2.drew
  have HF2 := Aside0.mk hf2.drew
  have HE := Aside0.mk he
  have H4 := Aside0.mk h4
  have HNE := Aside0.mk hne
  have HSE := Aside0.mk hse
  clear h2 hf2 hb1 hb he h4 hne hse hcb
  go_enter Try.func36, Try.ntmps36
  go_wp2
  go_region
  all_goals (
    generalize World.drew _ = w1 at HN2 HF2 ⊢
    have b2 := (HN2.out.eb e HE.out).2
    have e4 : w1.cell? ⟨e.b, 4, none⟩ = some (.pointer (some ⟨o c, off c (o c), none⟩)) := (blk_cell b2 4).trans (by simp only [upd_same]; rfl)
    have a3 := HN2.out.at3 H4.out
    have h3 := HN2.out.newer (o c) e.b
    have g5 := h3.at4 (.inl rfl)
    have h4 := h3.older c e.b
    have f4 := (HF2.out.set (p := ⟨o c, off c (o c) + 3, none⟩) H4.out (ptr c e.b)).set (p := ⟨c, off c c + 4, none⟩) (.inl rfl) (ptr c e.b)
    unfold ptr at a3 g5 h4 f4
    rw [off_c, off_e HNE.out] at g5 h4 f4
    rw [show 1 + 4 = 5 from rfl] at g5 h4 f4
    obtain ⟨a31, a32⟩ := a3
    obtain ⟨g51, g52⟩ := g5
    have HN4 := Aside0.mk h4
    have HF4 := Aside0.mk f4
    clear HN2 HF2 h3 h4 f4 b2 d3 c5 d4 f3 H4 HE HNE HSE
    generalize off c (o c) = oo at *
    generalize hob : o c = ob at *
    have HOB := Aside0.mk hob
    clear hob
    go_wp2
    go_returns
    rw [HOB.out]
    exact ⟨rfl, HN4.out, HF4.out⟩)
/-- A new node put first. -/
theorem use.fresh {w : World} {c m : Nat} {E B H : Int} {L : List Ent} {o n : Nat → Nat} (h : Nodes w c m E B H L o n) (e : Ent) {x3 x4 : Value}
    (hb : w.heap[e.b]? = some (.cells #[kv e.k, .int .i64 e.v, .int .i64 e.s, x3, x4] 78 (0, 0))) (hn : ¬ Sn c L e.b) (h4 : Sn c L (o c)) :
    Calls Try.prog 36 #[.pointer (some ⟨c, 0, none⟩), .pointer (some ⟨e.b, 0, none⟩)] w fun x w' => x = .returned (.tuple #[]) ∧ Nodes w' c m E B H (e :: L) (upd (upd o e.b (o c)) c e.b) (upd (upd n e.b c) (o c) e.b) ∧ Fr (Sn c (e :: L)) w w' := by
  have hne : e.b ≠ c := fun hh => hn (.inl hh)
  refine use.gen h.cb hb hne (by simp) (h4.imp id (fun ⟨e', he', hb'⟩ => ⟨e', by simp [he'], hb'⟩)) ?_
  refine ⟨?_, fun e' he' => ?_⟩
  · rw [upd_far _ hne.symm, upd_far _ hne.symm]
    exact blk_far (blk_far h.cb hne.symm _) hne.symm _
  · rcases List.mem_cons.1 he' with rfl | he'
    · refine ⟨hne, ?_⟩
      rw [upd_same, upd_same]
      exact (blk_set (blk_set hb 3 _) 4 _).trans rfl
    · obtain ⟨h1, h2⟩ := h.eb e' he'
      have hd : e'.b ≠ e.b := fun hh => hn (.inr ⟨e', he', hh⟩)
      refine ⟨h1, ?_⟩
      rw [upd_far _ hd, upd_far _ hd]
      exact blk_far (blk_far h2 hd _) hd _
set_option maxRecDepth 100000 in
set_option maxHeartbeats 4000000 in
theorem put_no {w : World} {c m : Nat} {E B : Int} {L : List Ent} (h : Own w c m E B L) {k : KT} (hk : kok k) (v sz : Int) (hno : sz < 0 ∨ B < sz ∨ E = 0) :
    Calls Try.prog 11 #[.pointer (some ⟨c, 0, none⟩), kv k, .int .i64 v, .int .i64 sz] w fun x w' => x = .returned (.bool false) ∧ Own w' c m E B (rm k L) ∧ Fr (Sb c m L) w w' := by
  have HD := Aside0.mk (drop.calls h hk)
  have HC := Aside0.mk (fun (w1 : World) (h1 : Own w1 c m E B (rm k L)) => by
    obtain ⟨o, n, hN, hR⟩ := h1.nodes
    exact (⟨(blk_cell hN.cb 6).trans rfl, (blk_cell hN.cb 7).trans rfl⟩ : w1.cell? ⟨c, 6, none⟩ = some (.int .i64 E) ∧ w1.cell? ⟨c, 7, none⟩ = some (.int .i64 B)))
  have hh : decide (sz < 0) = true ∨ (decide (sz < 0) = false ∧ decide (B < sz) = true) ∨ (decide (sz < 0) = false ∧ decide (B < sz) = false ∧ (E == 0) = true) := by
    simp only [decide_eq_true_eq, decide_eq_false_iff_not, beq_iff_eq]
    omega
  clear h hno
  rcases hh with h1 | ⟨h1, h2⟩ | ⟨h1, h2, h3⟩
  all_goals
    go_enter Try.func11, Try.ntmps11
    go_wp2_with (go_at_call 16; (with_reducible refine HD.out.mono ?_); rintro x w1 ⟨rfl, h1, hF⟩; obtain ⟨c6, c7⟩ := HC.out _ h1; have HO := Aside0.mk h1; have HF := Aside0.mk hF; clear h1 hF HD HC)
    go_returns
    exact ⟨rfl, HO.out, HF.out⟩
theorem map_kok {w : World} {m : Nat} {L : List Ent} (h : MapOf w m L) {e : Ent} (he : e ∈ L) : kok e.k := by
  obtain ⟨D, _, _, h3, _⟩ := h
  exact (h3 e he).1
theorem put_tail {w2 w4 : World} {c m : Nat} {E B : Int} {L2 : List Ent} (h2 : Own w2 c m E B L2) (e : Ent) (hk : hasK e.k L2 = false) (he : 0 ≤ e.s) (hT : tot L2 + e.s ≤ 9223372036854775807) (hlt : w2.heap.size ≤ e.b) {o n : Nat → Nat} (hN4 : Nodes w4 c m E B (tot L2) L2 o n) (hR : Ring o n c (L2.map Ent.b))
    {x3 x4 : Value} (hb4 : w4.heap[e.b]? = some (.cells #[kv e.k, .int .i64 e.v, .int .i64 e.s, x3, x4] 78 (0, 0))) (hM : MapOf w4 m (e :: L2)) :
    Calls Try.prog 36 #[.pointer (some ⟨c, 0, none⟩), .pointer (some ⟨e.b, 0, none⟩)] (w4.setCell ⟨c, 8, none⟩ (.int .i64 (wrap64 (tot L2 + e.s)))) fun x w' => x = .returned (.tuple #[]) ∧ Own w' c m E B (e :: L2) ∧ Fr (Sb c m (e :: L2)) w4 w' := by
  obtain ⟨o2, n2, hN2, hR2⟩ := h2.nodes
  have hns : ¬ Sn c L2 e.b := fun hh => by have := hN2.lt hh; omega
  have hp := tot_nonneg h2.pos
  have hw : wrap64 (tot L2 + e.s) = tot (e :: L2) := by
    rw [tot_cons, wrap_in (by omega) (by omega)]
    omega
  have hne : e.b ≠ c := fun hh => hns (.inl hh)
  have hn5 := h2.nd
  have hmem : e.b ∉ c :: L2.map Ent.b := by
    intro hh
    rcases List.mem_cons.1 hh with hh | hh
    · exact hne hh
    · obtain ⟨e', he', hb'⟩ := List.mem_map.1 hh
      exact hns (.inr ⟨e', he', hb'⟩)
  have hN5 := hN4.held (wrap64 (tot L2 + e.s))
  refine (use.fresh hN5 e (blk_far hb4 hne _) hns (first hR)).mono ?_
  rintro x w' ⟨rfl, hN6, hF⟩
  rw [hw] at hN6
  have hmc : ¬ Sn c (e :: L2) m := by
    rintro (hh | ⟨e', he', hh⟩)
    · exact hM.ne hN4.cb hh
    · rcases List.mem_cons.1 he' with rfl | he'
      · exact hM.ne hb4 hh.symm
      · exact hM.ne (hN4.eb e' he').2 hh.symm
  have hF4 : Fr (Sn c (e :: L2)) w4 w' := Fr.trans ((Fr.refl (Sn c (e :: L2)) w4).set (p := ⟨c, 8, none⟩) (.inl rfl) _) hF (fun _ _ hh => hh)
  refine ⟨rfl, ⟨⟨_, _, hN6, hR.use hn5 hmem⟩, ?_, ?_, hM.keep (hF4.block m hM.lt hmc), ?_, ?_⟩, hF4.mono (fun _ hh => .inr hh)⟩
  · rw [List.map_cons]
    obtain ⟨q1, q2⟩ := List.nodup_cons.1 hn5
    rw [List.nodup_cons, List.nodup_cons]
    exact ⟨fun hh => (List.mem_cons.1 hh).elim (fun hh => hne hh.symm) q1, fun hh => hmem (List.mem_cons_of_mem _ hh), q2⟩
  · rw [List.map_cons, List.nodup_cons]
    refine ⟨fun hh => ?_, h2.kn⟩
    obtain ⟨e', he', hb'⟩ := List.mem_map.1 hh
    exact hasK_false.1 hk e' he' hb'
  · intro e' he'
    rcases List.mem_cons.1 he' with rfl | he'
    · exact he
    · exact h2.pos e' he'
  · rw [tot_cons]
    omega
set_option maxRecDepth 100000 in
set_option maxHeartbeats 8000000 in
theorem put_yes {w : World} {c m : Nat} {E B : Int} {L : List Ent} (h : Own w c m E B L) {k : KT} (hk : kok k) (v sz : Int) (h1 : 0 ≤ sz) (h2 : sz ≤ B) (h3 : 0 < E) (h4 : E ≤ 9223372036854775807) (h5 : B ≤ 9223372036854775807) (hlen : L.length < maxLen) :
    Calls Try.prog 11 #[.pointer (some ⟨c, 0, none⟩), kv k, .int .i64 v, .int .i64 sz] w fun x w' => x = .returned (.bool true) ∧ (∃ b, w.heap.size ≤ b ∧ Own w' c m E B (⟨b, k, v, sz⟩ :: shr (E - 1) (B - sz) (rm k L).length (rm k L))) ∧ Fr (Sb c m L) w w' := by
  have HD := Aside0.mk (drop.calls h hk)
  have HC := Aside0.mk (fun (w1 : World) (h1 : Own w1 c m E B (rm k L)) => by
    obtain ⟨o, n, hN, hR⟩ := h1.nodes
    exact (⟨(blk_cell hN.cb 6).trans rfl, (blk_cell hN.cb 7).trans rfl⟩ : w1.cell? ⟨c, 6, none⟩ = some (.int .i64 E) ∧ w1.cell? ⟨c, 7, none⟩ = some (.int .i64 B)))
  have hfit := shr_fits (E' := E - 1) (B' := B - sz) (by omega) (by omega) (Nat.le_refl (rm k L).length)
  have hsl := shr_len (E' := E - 1) (B' := B - sz) (n := (rm k L).length) (L := rm k L)
  have hrl := rm_len (k := k) L
  have hsub : ∀ e' ∈ shr (E - 1) (B - sz) (rm k L).length (rm k L), e' ∈ L ∧ e'.k ≠ k := fun e' he' => mem_rm.1 (shr_sub he')
  have HSh := Aside0.mk (fun (w1 : World) (h : Own w1 c m E B (rm k L)) => shrink.calls h 1 sz (by omega) (by omega) h1 h2 h4 h5)
  generalize hL2 : shr (E - 1) (B - sz) (rm k L).length (rm k L) = L2 at *
  have e1 : decide (sz < 0) = false := by simpa using h1
  have e2 : decide (B < sz) = false := by simpa using h2
  have e3 : (E == 0) = false := by simp; omega
  have e4 : (decide (E = 0)) = false := by simp; omega
  have HLEN : Aside0 (L2.length < maxLen) := ⟨by omega⟩
  have HNK : Aside0 (hasK k L2 = false) := ⟨hasK_false.2 (fun e he => (hsub e he).2)⟩
  have HB := Aside0.mk hfit.2
  have HBB := Aside0.mk h5
  have HSZ := Aside0.mk h1
  have HLS : Aside0 (∀ e ∈ L2, e ∈ L) := ⟨fun e he => (hsub e he).1⟩
  have HK := Aside0.mk (key_of hk)
  have HKO := Aside0.mk hk
  have HC2 := Aside0.mk (fun (w1 : World) (h1 : Own w1 c m E B L2) => by
    obtain ⟨o, n, hN, hR⟩ := h1.nodes
    exact (⟨(blk_cell hN.cb 0).trans rfl, blk_lt hN.cb⟩ : w1.cell? ⟨c, 0, none⟩ = some (.map (some m)) ∧ c < w1.heap.size))
  have HM := Aside0.mk (fun (w2 : World) (h2 : Own w2 c m E B L2) (ob : Obj) => (h2.map.keep (w' := w2.alloc ob) (Below.heap_alloc w2 ob m h2.map.lt)).put ⟨w2.heap.size, k, v, sz⟩ hk HNK.out)
  have HN := Aside0.mk (fun (w2 : World) (h2 : Own w2 c m E B L2) (w4 : World) (ht : (w2.alloc (.cells #[kv k, .int .i64 v, .int .i64 sz, .pointer none, .pointer none] 78)).mapTurned w4 m) => by
    obtain ⟨o, n, hN, hR⟩ := h2.nodes
    have hN3 : Nodes (w2.alloc (.cells #[kv k, .int .i64 v, .int .i64 sz, .pointer none, .pointer none] 78)) c m E B (tot L2) L2 o n := hN.keep (Below.heap_alloc _ _ c (blk_lt hN.cb)) (fun e he => Below.heap_alloc _ _ e.b (blk_lt (hN.eb e he).2))
    have hN4 := turn hN3 ht
    have hb3 : (w2.alloc (.cells #[kv k, .int .i64 v, .int .i64 sz, .pointer none, .pointer none] 78)).heap[w2.heap.size]? = some (.cells #[kv k, .int .i64 v, .int .i64 sz, .pointer none, .pointer none] 78 (0, 0)) := blk_new _ _
    have hne : m ≠ w2.heap.size := fun hh => by have := h2.map.lt; omega
    have hb4 := (ht.grown.block w2.heap.size (by simp) (fun hh => hne (by cases hh; rfl))).trans hb3
    exact (⟨o, n, hN4, hR, hb4, (blk_cell hN4.cb 8).trans rfl, blk_frozen hN4.cb 8⟩ : ∃ o n, Nodes w4 c m E B (tot L2) L2 o n ∧ Ring o n c (L2.map Ent.b) ∧ w4.heap[w2.heap.size]? = some (.cells #[kv k, .int .i64 v, .int .i64 sz, .pointer none, .pointer none] 78 (0, 0)) ∧ w4.cell? ⟨c, 8, none⟩ = some (.int .i64 (tot L2)) ∧ w4.frozen? ⟨c, 8, none⟩ = false))
  have HTL := Aside0.mk (fun (w2 w4 : World) (o n : Nat → Nat) (g2 : Own w2 c m E B L2) (hN4 : Nodes w4 c m E B (tot L2) L2 o n) (hR : Ring o n c (L2.map Ent.b)) (hb4 : w4.heap[w2.heap.size]? = some (.cells #[kv k, .int .i64 v, .int .i64 sz, .pointer none, .pointer none] 78 (0, 0))) (hM : MapOf w4 m (⟨w2.heap.size, k, v, sz⟩ :: L2)) =>
    put_tail g2 ⟨w2.heap.size, k, v, sz⟩ HNK.out h1 (by have := hfit.2; simp only; omega) (Nat.le_refl _) hN4 hR hb4 hM)
  clear h h1 h2 h3 h4 h5 hlen hfit hsl hrl hsub hL2 hk
  unfold kv at *
  go_enter Try.func11, Try.ntmps11
  go_wp2_with (first | (go_at_call 16; (with_reducible refine HD.out.mono ?_); rintro x w1 ⟨rfl, h1, hF⟩; obtain ⟨c6, c7⟩ := HC.out _ h1; have HO := Aside0.mk h1; have HF := Aside0.mk hF; clear h1 hF HD HC) | (go_at_call 35; (with_reducible refine (HSh.out _ HO.out).mono ?_); rintro x w2 ⟨rfl, h1, hF⟩; obtain ⟨c0, lt0⟩ := HC2.out _ h1; have HO2 := Aside0.mk h1; have HF2 := Aside0.mk hF; clear HO HSh h1 hF c6 c7) | (at_mapUpdate; obtain ⟨D, hd1, hd2⟩ := HM.out _ HO2.out (.cells #[.int .i64 k, .int .i64 v, .int .i64 sz, .pointer none, .pointer none] 78); refine wpList_mapUpdate_in _ rfl _ _ _ 75 rfl 3 76 keyed Try.underlying75 PR m L2.length D rfl hd1 HLEN.out _ _ _ rfl rfl HK.out _ _ (PR_mk w2.heap.size) ?_; intro w4 hown4 hturn4; have HM4 := Aside0.mk (hd2 _ hown4); obtain ⟨o, n, hN4, hR, hb4, c8, f8⟩ := HN.out _ HO2.out _ hturn4; have HT4 := Aside0.mk hturn4; have HN4 := Aside0.mk hN4; have HR4 := Aside0.mk hR; have HB4 := Aside0.mk hb4; clear hd1 hd2 hown4 hturn4 hN4 hR hb4 HM HN HC2 c0))
  go_at_call 36
  refine (HTL.out _ _ _ _ HO2.out HN4.out HR4.out HB4.out HM4.out).mono ?_
  rintro x w6 ⟨rfl, h6, hF6⟩
  have HO6 := Aside0.mk h6
  have HF6 := Aside0.mk hF6
  clear h6 hF6
  go_wp2
  go_returns
  have hs2 := HF.out.size
  have hs3 := HF2.out.size
  have f2 : Fr (Sb c m L) w w2 := HF.out.trans HF2.out (fun i _ hh => Sb.sub (fun e he => (mem_rm.1 he).1) i hh)
  have f3 := (f2.alloc (.cells #[kv k, .int .i64 v, .int .i64 sz, .pointer none, .pointer none] 78)).map HT4.out (.inl rfl)
  refine ⟨rfl, ⟨w2.heap.size, by omega, HO6.out⟩, f3.trans HF6.out (fun i hi hh => ?_)⟩
  rcases hh with hh | hh | ⟨e, he, hh⟩
  · exact .inl hh
  · exact .inr (.inl hh)
  · rcases List.mem_cons.1 he with rfl | he
    · simp only at hh
      omega
    · exact .inr (.inr ⟨e, HLS.out e he, hh⟩)
end Go.Proofs.Ytebmfbfmdbimdaa.F.Li
