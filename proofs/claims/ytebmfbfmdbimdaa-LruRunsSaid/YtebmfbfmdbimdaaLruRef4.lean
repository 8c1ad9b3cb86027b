/- The document's answer for a cache, walked: a key put, as many kept as fit. -/
import Derived.Test.YtebmfbfmdbimdaaLruRef3
namespace Go.Proofs.Ytebmfbfmdbimdaa.F.Li
open Go.RowKit Go.Proofs.YtebmfbfmdbimdaaW.PrintWords Go.Proofs.YtebmfbfmdbimdaaW.PrintLast Go.Proofs.YtebmfbfmdbimdaaW.PrintMore Go.Proofs.Ytebmfbfmdbimdaa.rowQ Go.Proofs.Ytebmfbfmdbimdaa.R
set_option linter.unusedVariables false
set_option linter.unusedSimpArgs false
theorem rmT_nodup {k : Int} {T : List Tr} (h : (T.map Tr.k).Nodup) : ((rmT k T).map Tr.k).Nodup := h.sublist (List.Sublist.map _ List.filter_sublist)
theorem ref_fit.calls {base : Nat} {w : World} {v : Value} {T : List Tr} (E B : Int) (h : RL base w v T) (hb : base ≤ w.heap.size) (hl : T.length < 5864062014805) (hp : ∀ t ∈ T, 0 ≤ t.s) (hE : E ≤ 9223372036854775807) (hB0 : 0 ≤ B) (hB : B ≤ 9223372036854775807) :
    Calls Try.prog 18 #[.agg #[v, .int .i64 E, .int .i64 B]] w fun x w' => ∃ v', x = .returned (.agg #[v', .int .i64 E, .int .i64 B]) ∧ RL base w' v' (fitT E B T) ∧ Below w.heap.size w w' := by
  obtain ⟨A, c, rfl, hc, hr⟩ := h.slice
  obtain ⟨kk, hf⟩ := fit_f T E B hl hp hE hB0 hB
  have := serifref23_Fit.calls kk A c (T.map s49) E B _ _ _ w hr (by simpa using hc) hf
  rw [List.length_map] at this
  refine this.mono ?_
  rintro x w' ⟨v', rfl, h1, h2⟩
  exact ⟨v', rfl, Kd.R_lower h1 hb, h2⟩
set_option maxRecDepth 100000 in
set_option maxHeartbeats 8000000 in
theorem ref_put_no {base : Nat} {w : World} {v : Value} {T : List Tr} (E B k vl sz : Int) (h : RL base w v T) (hb0 : base ≤ w.heap.size) (hl : T.length < 5864062014805) (hn : (T.map Tr.k).Nodup) (hno : putOk E B sz = false) :
    Calls Try.prog 14 #[.agg #[v, .int .i64 E, .int .i64 B], .int .i64 k, .int .i64 vl, .int .i64 sz] w fun x w' => ∃ v', x = .returned (.tuple #[.agg #[v', .int .i64 E, .int .i64 B], .bool false]) ∧ RL base w' v' (rmT k T) ∧ Below w.heap.size w w' := by
  have HD := Aside0.mk (fun (W : World) (hb : Below w.heap.size w W) => ref_drop.calls E B k (h.below hb) (Nat.le_trans hb0 hb.size) hl hn)
  obtain ⟨A, c, rfl, hc, hr⟩ := h.slice
  have hh : decide (sz < 0) = true ∨ (decide (sz < 0) = false ∧ decide (B < sz) = true) ∨ (decide (sz < 0) = false ∧ decide (B < sz) = false ∧ (E == 0) = true) := by
    simp only [putOk, Bool.not_eq_false', Bool.or_eq_true, decide_eq_true_eq] at hno
    simp only [decide_eq_true_eq, decide_eq_false_iff_not, beq_iff_eq]
    omega
  have HBB := Aside0.mk hb0
  generalize T.length = N at *
  clear h hr hn hl hc hno hb0
  rcases hh with h1 | ⟨h1, h2⟩ | ⟨h1, h2, h3⟩
  all_goals
    go_enter Try.func14, Try.ntmps14
    go_wp2_with (go_at_call 15; (with_reducible refine (HD.out _ (below_alloc (below_alloc (Below.refl _ _) _) _)).mono ?_); rintro e w1 ⟨v', rfl, hR, hb⟩; obtain ⟨A2, c2, rfl, hc2, _⟩ := hR.slice; obtain ⟨b0, b1, hb1⟩ := two_blocks hb; have c00 := (blk_cell b0 0).trans rfl; have c01 := (blk_cell b0 1).trans rfl; have c02 := (blk_cell b0 2).trans rfl; have f00 := blk_frozen b0 0; have f01 := blk_frozen b0 1; have f02 := blk_frozen b0 2; have c10 := (blk_cell b1 0).trans rfl; have c11 := (blk_cell b1 1).trans rfl; have c12 := (blk_cell b1 2).trans rfl; have f10 := blk_frozen b1 0; have f11 := blk_frozen b1 1; have f12 := blk_frozen b1 2; have HB1 := Aside0.mk hb1; have HB10 := Aside0.mk b0; have HB11 := Aside0.mk b1; have HR := Aside0.mk hR; generalize (rmT k T).length = n2 at *; clear hb b0 b1 hb1 hR)
    refine bodyPost_ret (v := .tuple #[.agg #[.slice A2 n2 c2, .int .i64 E, .int .i64 B], .bool false]) (by simp [results, Try.results14, go_sem, c10, c11, c12]) rfl ⟨_, rfl, ?_, ?_⟩
    · have h1 := HR.out.put3 HB10.out (by decide) (.slice A2 n2 c2) (.int .i64 E) (.int .i64 B)
      exact h1.put3 (put3_far HB11.out (Nat.succ_ne_self _) _ _ _) (by decide) (.slice A2 n2 c2) (.int .i64 E) (.int .i64 B)
    · exact below_put3 (below_put3 HB1.out (Nat.le_refl _) _ _ _) (Nat.le_succ _) _ _ _
set_option maxRecDepth 100000 in
set_option maxHeartbeats 8000000 in
theorem ref_put_yes {base : Nat} {w : World} {v : Value} {T : List Tr} (E B k vl sz : Int) (h : RL base w v T) (hb0 : base ≤ w.heap.size) (hl : T.length < 5864062014804) (hn : (T.map Tr.k).Nodup) (hp : ∀ t ∈ T, 0 ≤ t.s) (h0 : 0 ≤ E) (hE : E ≤ 9223372036854775807) (hB : B ≤ 9223372036854775807) (hok : putOk E B sz = true) :
    Calls Try.prog 14 #[.agg #[v, .int .i64 E, .int .i64 B], .int .i64 k, .int .i64 vl, .int .i64 sz] w fun x w' => ∃ v', x = .returned (.tuple #[.agg #[v', .int .i64 E, .int .i64 B], .bool true]) ∧ RL base w' v' (⟨k, vl, sz⟩ :: fitT (E - 1) (B - sz) (rmT k T)) ∧ Below w.heap.size w w' := by
  have HD := Aside0.mk (fun (W : World) (hb : Below w.heap.size w W) => ref_drop.calls E B k (h.below hb) (Nat.le_trans hb0 hb.size) (by omega) hn)
  obtain ⟨A, c, rfl, hc, hr⟩ := h.slice
  simp only [putOk, Bool.not_eq_true', Bool.or_eq_false_iff, decide_eq_false_iff_not] at hok
  have e1 : decide (sz < 0) = false := by simp; omega
  have e2 : decide (B < sz) = false := by simp; omega
  have e3 : (E == 0) = false := by simp; omega
  have hrl := rmT_len (k := k) (T := T)
  have hF := fun (W : World) (v' : Value) (hR : RL w.heap.size W v' (⟨k, vl, sz⟩ :: rmT k T)) (hb : w.heap.size ≤ W.heap.size) => ref_fit.calls E B hR hb (by simp; omega) (fun t ht => by
    rcases List.mem_cons.1 ht with rfl | ht
    · show 0 ≤ sz; omega
    · exact hp t (mem_rmT.1 ht).1) hE (by omega) hB
  have hft : fitT E B (⟨k, vl, sz⟩ :: rmT k T) = ⟨k, vl, sz⟩ :: fitT (E - 1) (B - sz) (rmT k T) := by
    rw [fitT, if_pos ⟨by omega, by show sz ≤ B; omega⟩]
  rw [hft] at hF
  have HF := Aside0.mk hF
  have HBB := Aside0.mk hb0
  have HL24 : Aside0 (([s49 ⟨k, vl, sz⟩].length + (rmT k T).length) * 24 ≤ 140737488355328) := ⟨by simp; omega⟩
  generalize T.length = N at *
  clear h hr hn hl hc hok hb0 hp h0 hE hB hrl hF hft
  go_enter Try.func14, Try.ntmps14
  go_wp2_with (first | (go_at_call 15; (with_reducible refine (HD.out _ (below_alloc (below_alloc (Below.refl _ _) _) _)).mono ?_); rintro e w1 ⟨v', rfl, hR, hb⟩; obtain ⟨A2, c2, rfl, hc2, _⟩ := hR.slice; obtain ⟨b0, b1, hb1⟩ := two_blocks hb; have c00 := (blk_cell b0 0).trans rfl; have c01 := (blk_cell b0 1).trans rfl; have c02 := (blk_cell b0 2).trans rfl; have f00 := blk_frozen b0 0; have f01 := blk_frozen b0 1; have f02 := blk_frozen b0 2; have HB1 := Aside0.mk hb1; have HB10 := Aside0.mk b0; have HB11 := Aside0.mk b1; have HR := Aside0.mk hR; clear hb b0 b1 hb1 hR) | ((with_reducible refine gate_dst (N := 34) rfl ?_); (refine Kd.R_lit k49 (w0 := w) w.heap.size 49 ?hg (N := 34) ?hd (xs := [s49 ⟨k, vl, sz⟩]) (inner := [.int .i64 k, .int .i64 vl, .int .i64 sz]) (ok := fun _ => True) (okp := fun _ => True) ?hr ?hp (fun _ hk => hk) trivial ?hB ?hS ?hm ?_; (case hm => show 1 ≤ _; decide); (case hB => exact (below_put3 HB1.out (Nat.le_refl _) _ _ _)); (case hS => exact (below_put3 HB1.out (Nat.le_refl _) _ _ _).size); (case hd => rfl); (case hg => rfl); (case hr => first | (go_simp; done) | (go_simp; rfl)); (case hp => exact (Reps.c3 (k49_mkM _ _ _ (s49 ⟨k, vl, sz⟩)) (Reps.none _ _))); intro v3 w3 ho3 hb3 hg3 hnew_; have b0 := blk_grown (put3_same HB10.out _ _ _) hg3 (by simp); have b1 := blk_grown (put3_far HB11.out (Nat.succ_ne_self _) _ _ _) hg3 (by simp); have HO3 := Aside0.mk ho3; have HB3 := Aside0.mk hb3; have r3 := (HR.out.put3 HB10.out (by decide) _ _ _).grown hg3; have c30 := (blk_cell b0 0).trans rfl; have hC3 := (Kd.R_reads' r3).2.2; simp only [List.length_map] at hC3; have HC3 := Aside0.mk hC3; have HB30 := Aside0.mk b0; have HB31 := Aside0.mk b1; clear hC3 ho3 hb3 hg3 hnew_ b0 b1 r3 c00 c01 c02 f00 f01 f02 HB10 HB11 HB1 HR)) | (at_builtin; (refine Kd.R_append_rows k49 (w0 := w) w.heap.size rfl (.tmp 34) (.tmp 36) 36 49 (.agg #[(.int .i64 0), (.int .i64 0), (.int .i64 0)]) 24 rfl Try.underlying36 info49 rfl (by decide) (by decide) v3 [s49 ⟨k, vl, sz⟩] ((rmT k T).map s49) _ _ _ (fun _ => True) (fun _ => False) rfl rfl HO3.out HC3.out (fun _ _ h => h) (fun _ h => h.elim) (fun _ _ => trivial) HB3.out HB3.out.size HL24.out ?_; intro v4 w4 ho hb hg _; obtain ⟨A4, c4, ev⟩ := Kd.R_slice ho; obtain ⟨n4, hn4⟩ : ∃ n4 : Nat, n4 = ([s49 ⟨k, vl, sz⟩] ++ (rmT k T).map s49).length := ⟨_, rfl⟩; rw [← hn4] at ev; clear hn4; subst ev; have HO4 := Aside0.mk (show RL w.heap.size w4 (.slice A4 n4 c4) (⟨k, vl, sz⟩ :: rmT k T) from ho); have HB4 := Aside0.mk hb; have b0 := blk_grown HB30.out hg (RL.ne HO3.out HB30.out (by decide)); have b1 := blk_grown HB31.out hg (RL.ne HO3.out HB31.out (by decide)); have c40 := (blk_cell b0 0).trans rfl; have c41 := (blk_cell b0 1).trans rfl; have c42 := (blk_cell b0 2).trans rfl; have f40 := blk_frozen b0 0; have HB40 := Aside0.mk b0; have HB41 := Aside0.mk b1; clear ho hb hg b0 b1 HO3 HB3 HC3 HB30 HB31 c30)) | (go_at_call 18; ((refine (HF.out _ _ (HO4.out.set HB40.out (by decide) 0 _) (below_set HB4.out (Nat.le_refl _)).size).mono ?_); rintro e w5 ⟨v', rfl, hR, hb⟩; obtain ⟨A5, c5, rfl, _, _⟩ := hR.slice; have b1 := blk_below (blk_far (p := ⟨w.heap.size, 0, none⟩) HB41.out (Nat.succ_ne_self _) _) hb; have HB5 := Aside0.mk (below_then (below_set HB4.out (Nat.le_refl _)) (below_set HB4.out (Nat.le_refl _)).size hb); have HR5 := Aside0.mk hR; have HB51 := Aside0.mk b1; have c50 := (blk_cell b1 0).trans rfl; have c51 := (blk_cell b1 1).trans rfl; have c52 := (blk_cell b1 2).trans rfl; have f50 := blk_frozen b1 0; have f51 := blk_frozen b1 1; have f52 := blk_frozen b1 2; generalize (⟨k, vl, sz⟩ :: fitT (E - 1) (B - sz) (rmT k T) : List Tr).length = n5 at *; clear hR hb b1)))
  refine bodyPost_ret (v := .tuple #[.agg #[.slice A5 n5 c5, .int .i64 E, .int .i64 B], .bool true]) (by simp [results, Try.results14, go_sem, c50, c51, c52]) rfl ⟨_, rfl, ?_, ?_⟩
  · exact (HR5.out.put3 HB51.out (by decide) (.slice A5 n5 c5) (.int .i64 E) (.int .i64 B)).lower HBB.out
  · exact below_put3 HB5.out (Nat.le_succ _) _ _ _
theorem ref_put.calls {base : Nat} {w : World} {v : Value} {T : List Tr} (E B k vl sz : Int) (h : RL base w v T) (hb0 : base ≤ w.heap.size) (hl : T.length < 5864062014804) (hn : (T.map Tr.k).Nodup) (hp : ∀ t ∈ T, 0 ≤ t.s) (h0 : 0 ≤ E) (hE : E ≤ 9223372036854775807) (hB : B ≤ 9223372036854775807) :
    Calls Try.prog 14 #[.agg #[v, .int .i64 E, .int .i64 B], .int .i64 k, .int .i64 vl, .int .i64 sz] w fun x w' => ∃ v', x = .returned (.tuple #[.agg #[v', .int .i64 E, .int .i64 B], .bool (putOk E B sz)]) ∧ RL base w' v' (putT E B k vl sz T) ∧ Below w.heap.size w w' := by
  unfold putT
  cases hok : putOk E B sz with
  | false =>
    rw [if_neg (by simp)]
    exact ref_put_no E B k vl sz h hb0 (by omega) hn hok
  | true =>
    rw [if_pos rfl]
    exact ref_put_yes E B k vl sz h hb0 hl hn hp h0 hE hB hok
theorem ref_held.calls {base : Nat} {w : World} {v : Value} {T : List Tr} (E B : Int) (h : RL base w v T) (hl : T.length < 9223372036854775807) (hp : ∀ t ∈ T, 0 ≤ t.s) (ht : totT T ≤ 9223372036854775807) :
    Calls Try.prog 24 #[.agg #[v, .int .i64 E, .int .i64 B]] w fun x w' => x = .returned (.int .i64 (totT T)) ∧ Below w.heap.size w w' := by
  obtain ⟨A, c, rfl, hc, hr⟩ := h.slice
  obtain ⟨kk, hf⟩ := held_f T E B hl hp ht
  have := serifref23_Held.calls kk A c (T.map s49) E B _ w hr (by simpa using hc) hf
  rwa [List.length_map] at this
end Go.Proofs.Ytebmfbfmdbimdaa.F.Li
