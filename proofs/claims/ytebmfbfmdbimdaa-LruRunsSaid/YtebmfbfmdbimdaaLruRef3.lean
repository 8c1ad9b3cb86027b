/- The document's answer for a cache, walked: a key got. -/
import Derived.Test.YtebmfbfmdbimdaaLruRef2
namespace Go.Proofs.Ytebmfbfmdbimdaa.F.Li
open Go.RowKit Go.Proofs.YtebmfbfmdbimdaaW.PrintWords Go.Proofs.YtebmfbfmdbimdaaW.PrintLast Go.Proofs.YtebmfbfmdbimdaaW.PrintMore Go.Proofs.Ytebmfbfmdbimdaa.rowQ Go.Proofs.Ytebmfbfmdbimdaa.R
set_option linter.unusedVariables false
set_option linter.unusedSimpArgs false
theorem RL.lower {base base' : Nat} {w : World} {v : Value} {T : List Tr} (h : RL base w v T) (hb : base' ≤ base) : RL base' w v T := Kd.R_lower h hb
theorem rmT_no {k : Int} {T : List Tr} (h : hasT k T = false) : rmT k T = T := by
  unfold rmT
  rw [List.filter_eq_self]
  intro t ht
  simp only [hasT, List.any_eq_false, decide_eq_true_eq] at h
  simpa using h t ht
theorem rmT_at {k : Int} {T1 T2 : List Tr} {t : Tr} (hk : t.k = k) (h1 : hasT k T1 = false) (hn : ((T1 ++ t :: T2).map Tr.k).Nodup) : rmT k (T1 ++ t :: T2) = T1 ++ T2 := by
  have h2 : hasT k T2 = false := by
    rw [List.map_append, List.map_cons, List.nodup_append, List.nodup_cons] at hn
    simp only [hasT, List.any_eq_false, decide_eq_true_eq]
    intro u hu hh
    exact hn.2.1.1 (by rw [hk, ← hh]; exact List.mem_map_of_mem hu)
  have e1 := rmT_no h1
  have e2 := rmT_no h2
  unfold rmT at e1 e2 ⊢
  rw [List.filter_append, List.filter_cons, e1, e2]
  simp [hk]
theorem find_at_T {k : Int} {T1 T2 : List Tr} {t : Tr} (hk : t.k = k) (h1 : hasT k T1 = false) : (T1 ++ t :: T2).find? (fun t => decide (t.k = k)) = some t := by
  rw [List.find?_append, List.find?_eq_none.2]
  · simp [hk]
  · simp only [hasT, List.any_eq_false] at h1
    exact h1
/-- A struct of three cells stored. -/
def put3 (w : World) (g : Nat) (a b c : Value) : World := ((w.setCell ⟨g, 0, none⟩ a).setCell ⟨g, 1, none⟩ b).setCell ⟨g, 2, none⟩ c
theorem put3_same {w : World} {g : Nat} {x y z : Value} {ty : TypeId} (h : w.heap[g]? = some (.cells #[x, y, z] ty (0, 0))) (a b c : Value) : (((w.setCell ⟨g, 0, none⟩ a).setCell ⟨g, 1, none⟩ b).setCell ⟨g, 2, none⟩ c).heap[g]? = some (.cells #[a, b, c] ty (0, 0)) :=
  (blk_set (blk_set (blk_set h 0 a) 1 b) 2 c).trans rfl
theorem put3_far {w : World} {g g' : Nat} {cs : Array Value} {ty : TypeId} (h : w.heap[g']? = some (.cells cs ty (0, 0))) (hn : g' ≠ g) (a b c : Value) : (((w.setCell ⟨g, 0, none⟩ a).setCell ⟨g, 1, none⟩ b).setCell ⟨g, 2, none⟩ c).heap[g']? = some (.cells cs ty (0, 0)) :=
  blk_far (p := ⟨g, 2, none⟩) (blk_far (p := ⟨g, 1, none⟩) (blk_far (p := ⟨g, 0, none⟩) h hn a) hn b) hn c
theorem RL.put3 {base : Nat} {w : World} {v : Value} {T : List Tr} (h : RL base w v T) {g : Nat} {x y z : Value} {ty : TypeId} (hg : w.heap[g]? = some (.cells #[x, y, z] ty (0, 0))) (ht : ty ≠ 49) (a b c : Value) : RL base (((w.setCell ⟨g, 0, none⟩ a).setCell ⟨g, 1, none⟩ b).setCell ⟨g, 2, none⟩ c) v T :=
  ((h.set hg ht 0 a).set (blk_set hg 0 a) ht 1 b).set (blk_set (blk_set hg 0 a) 1 b) ht 2 c
theorem below_put3 {w W : World} {g : Nat} (h : Below w.heap.size w W) (hg : w.heap.size ≤ g) (a b c : Value) : Below w.heap.size w (((W.setCell ⟨g, 0, none⟩ a).setCell ⟨g, 1, none⟩ b).setCell ⟨g, 2, none⟩ c) := below_set (below_set (below_set h hg) hg) hg
theorem RL.grown {base : Nat} {w w' : World} {v : Value} {T : List Tr} (h : RL base w v T) (hg : w.grownBy w' none) : RL base w' v T := h.keep (fun g cells hg' => hg.block g (blk_lt hg') (by simp))
theorem ref_drop.calls {base : Nat} {w : World} {v : Value} {T : List Tr} (E B k : Int) (h : RL base w v T) (hb : base ≤ w.heap.size) (hl : T.length < 5864062014805) (hn : (T.map Tr.k).Nodup) :
    Calls Try.prog 15 #[.agg #[v, .int .i64 E, .int .i64 B], .int .i64 k] w fun x w' => ∃ v', x = .returned (.tuple #[.agg #[v', .int .i64 E, .int .i64 B], .bool (hasT k T)]) ∧ RL base w' v' (rmT k T) ∧ Below w.heap.size w w' := by
  cases hk : hasT k T with
  | false =>
    refine (ref_drop_no E B k h hl hk).mono ?_
    rintro x w' ⟨rfl, h1⟩
    rw [rmT_no hk]
    exact ⟨v, rfl, h.below h1, h1⟩
  | true =>
    obtain ⟨T1, t, T2, rfl, rfl, h1, _⟩ := posT_yes (i := 0) hk
    refine (ref_drop_yes E B h hl h1).mono ?_
    rintro x w' ⟨v', rfl, h2, h3⟩
    rw [rmT_at rfl h1 hn]
    exact ⟨v', rfl, h2.lower hb, h3⟩
set_option maxRecDepth 100000 in
set_option maxHeartbeats 8000000 in
theorem ref_get_no {base : Nat} {w : World} {v : Value} {T : List Tr} (E B k : Int) (h : RL base w v T) (hl : T.length < 5864062014805) (hk : hasT k T = false) :
    Calls Try.prog 13 #[.agg #[v, .int .i64 E, .int .i64 B], .int .i64 k] w fun x w' => x = .returned (.tuple #[.agg #[v, .int .i64 E, .int .i64 B], .int .i64 0, .bool false]) ∧ Below w.heap.size w w' := by
  obtain ⟨A, c, rfl, hc, hr⟩ := h.slice
  obtain ⟨kk, hf⟩ := at_f k T E B (by omega)
  rw [posT_no hk] at hf
  have HA := Aside0.mk (fun (W : World) (hb : Below w.heap.size w W) => serifref23_At.calls kk A c (T.map s49) E B k (-1) W (Kd.C_below hr hb) (by simpa using hc) hf)
  rw [List.length_map] at HA
  clear h hr hf hk hc hl
  go_enter Try.func13, Try.ntmps13
  go_wp2_with (go_at_call 38; (with_reducible refine (HA.out _ (below_alloc (below_alloc (Below.refl _ _) _) _)).mono ?_); rintro e w1 ⟨rfl, hb⟩; obtain ⟨b0, b1, hb1⟩ := two_blocks hb; have c00 := (blk_cell b0 0).trans rfl; have c01 := (blk_cell b0 1).trans rfl; have c02 := (blk_cell b0 2).trans rfl; have c10 := (blk_cell b1 0).trans rfl; have c11 := (blk_cell b1 1).trans rfl; have c12 := (blk_cell b1 2).trans rfl; have f10 := blk_frozen b1 0; have f11 := blk_frozen b1 1; have f12 := blk_frozen b1 2; have HB1 := Aside0.mk hb1; have HB11 := Aside0.mk b1; clear hb b0 b1 hb1)
  refine bodyPost_ret (v := .tuple #[.agg #[.slice A T.length c, .int .i64 E, .int .i64 B], .int .i64 0, .bool false]) (by simp [results, Try.results13, go_sem, c10, c11, c12]) rfl ⟨rfl, ?_⟩
  exact below_set (below_set (below_set HB1.out (Nat.le_succ _)) (Nat.le_succ _)) (Nat.le_succ _)
set_option maxRecDepth 100000 in
set_option maxHeartbeats 8000000 in
theorem ref_get_yes {base : Nat} {w : World} {v : Value} {T1 T2 : List Tr} {t : Tr} (E B : Int) (h : RL base w v (T1 ++ t :: T2)) (hb0 : base ≤ w.heap.size) (hl : (T1 ++ t :: T2).length < 5864062014805) (hk : hasT t.k T1 = false) (hn : ((T1 ++ t :: T2).map Tr.k).Nodup) :
    Calls Try.prog 13 #[.agg #[v, .int .i64 E, .int .i64 B], .int .i64 t.k] w fun x w' => ∃ v', x = .returned (.tuple #[.agg #[v', .int .i64 E, .int .i64 B], .int .i64 t.v, .bool true]) ∧ RL base w' v' (t :: (T1 ++ T2)) ∧ Below w.heap.size w w' := by
  obtain ⟨A, c, rfl, hc, hr⟩ := h.slice
  obtain ⟨kk, hf⟩ := at_f t.k (T1 ++ t :: T2) E B (by omega)
  have hpos : posT t.k (T1 ++ t :: T2) 0 = (T1.length : Int) := by
    have : ∀ (T1 : List Tr) (i : Nat), hasT t.k T1 = false → posT t.k (T1 ++ t :: T2) i = ((i + T1.length : Nat) : Int) := by
      intro T1
      induction T1 with
      | nil => intro i _; rw [List.nil_append, posT, if_pos rfl]; rfl
      | cons u T1 ih =>
        intro i h
        simp only [hasT, List.any_cons, Bool.or_eq_false_iff, decide_eq_false_iff_not] at h
        rw [List.cons_append, posT, if_neg h.1, ih (i + 1) h.2, List.length_cons]
        omega
    rw [this T1 0 hk]
    simp
  rw [hpos] at hf
  have HA := Aside0.mk (fun (W : World) (hb : Below w.heap.size w W) => serifref23_At.calls kk A c ((T1 ++ t :: T2).map s49) E B t.k _ W (Kd.C_below hr hb) (by simpa using hc) hf)
  rw [List.length_map] at HA
  have hlen : ((T1 ++ t :: T2).map s49).length = (T1 ++ t :: T2).length := List.length_map ..
  have hlt : T1.length < (T1 ++ t :: T2).length := by simp
  obtain ⟨ad, rfl, a0, a1, a2⟩ := at_T49 hr (T1.length : Int) (by omega) (by rw [hlen]; omega)
  have hrd : rd_T49 ((T1 ++ t :: T2).map s49) (T1.length : Int) = s49 t := by
    rw [rd_map hlt]
    simp
  rw [hrd, Int.toNat_natCast] at a0 a1 a2
  have H0 : Aside0 (∀ W, Below w.heap.size w W → W.cell? (ad.add (T1.length * 3)) = some (.int .i64 t.k) ∧ W.cell? ⟨(ad.add (T1.length * 3)).block, (ad.add (T1.length * 3)).off + 1, none⟩ = some (.int .i64 t.v) ∧ W.cell? ⟨(ad.add (T1.length * 3)).block, (ad.add (T1.length * 3)).off + 2, none⟩ = some (.int .i64 t.s)) := ⟨fun W hb => ⟨pw_cell_below hb a0, pw_cell_below hb a1, pw_cell_below hb a2⟩⟩
  have hD := fun (W : World) (hb : Below w.heap.size w W) => ref_drop.calls E B t.k (h.below hb) (Nat.le_trans hb0 hb.size) hl hn
  rw [rmT_at rfl hk hn] at hD
  have HD := Aside0.mk hD
  have HL := Aside0.mk hl
  have HBB := Aside0.mk hb0
  have hlt2 : ((T1.length : Int) < ((T1 ++ t :: T2).length : Int)) := by omega
  have hge : (0 : Int) ≤ (T1.length : Int) := by omega
  have HL24 : Aside0 (([s49 t].length + (T1.length + T2.length)) * 24 ≤ 140737488355328) := ⟨by simp at hl ⊢; omega⟩
  generalize hN : (T1 ++ t :: T2).length = N at *
  have hcc : N ≤ c := hc
  clear h hr hf hk hn hpos hN hlen hrd a0 a1 a2 hD hl hb0 hlt hc
  go_enter Try.func13, Try.ntmps13
  go_wp2_with (first | (go_at_call 38; (with_reducible refine (HA.out _ (below_alloc (below_alloc (Below.refl _ _) _) _)).mono ?_); rintro e w1 ⟨rfl, hb⟩; obtain ⟨b0, b1, hb1⟩ := two_blocks hb; obtain ⟨a0, a1, a2⟩ := H0.out _ hb1; have c00 := (blk_cell b0 0).trans rfl; have c01 := (blk_cell b0 1).trans rfl; have c02 := (blk_cell b0 2).trans rfl; have l0 := blk_lt b0; have l1 := blk_lt b1; have HB1 := Aside0.mk hb1; have HB10 := Aside0.mk b0; have HB11 := Aside0.mk b1; clear hb b0 b1 hb1) | (go_at_call 15; (with_reducible refine (HD.out _ (HB1.out.alloc HB1.out.size _)).mono ?_); rintro e w2 ⟨v', rfl, hR, hb⟩; obtain ⟨A2, c2, rfl, hc2, _⟩ := hR.slice; have b0 := blk_below (blk_alloc HB10.out _) hb; have b1 := blk_below (blk_alloc HB11.out _) hb; have b2 := blk_below (blk_new w1 _) hb; have HR2 := Aside0.mk hR; have HB2 := Aside0.mk (below_then (HB1.out.alloc HB1.out.size _) (by simp; omega) hb); have d00 := (blk_cell b0 0).trans rfl; have d01 := (blk_cell b0 1).trans rfl; have d02 := (blk_cell b0 2).trans rfl; have e00 := blk_frozen b0 0; have e01 := blk_frozen b0 1; have e02 := blk_frozen b0 2; have d20 := (blk_cell b2 0).trans rfl; have d21 := (blk_cell b2 1).trans rfl; have d22 := (blk_cell b2 2).trans rfl; have HB20 := Aside0.mk b0; have HB21 := Aside0.mk b1; have HB22 := Aside0.mk b2; have m0 : w.heap.size ≠ w1.heap.size := (by omega); have m1 : w.heap.size + 1 ≠ w1.heap.size := (by omega); clear hb b0 b1 b2 hR a0 a1 a2 c00 c01 c02) | ((with_reducible refine gate_dst (N := 27) rfl ?_); (refine Kd.R_lit k49 (w0 := w) w.heap.size 49 ?hg (N := 27) ?hd (xs := [s49 t]) (inner := [.int .i64 t.k, .int .i64 t.v, .int .i64 t.s]) (ok := fun _ => True) (okp := fun _ => True) ?hr ?hp (fun _ hk => hk) trivial ?hB ?hS ?hm ?_; (case hm => show 1 ≤ _; decide); (case hB => exact (below_set (below_set (below_set HB2.out (Nat.le_refl _)) (Nat.le_refl _)) (Nat.le_refl _))); (case hS => exact (below_set (below_set (below_set HB2.out (Nat.le_refl _)) (Nat.le_refl _)) (Nat.le_refl _)).size); (case hd => rfl); (case hg => rfl); (case hr => first | (go_simp; done) | (go_simp; rfl)); (case hp => exact (Reps.c3 (k49_mkM _ _ _ (s49 t)) (Reps.none _ _))); intro v3 w3 ho3 hb3 hg3 hnew_; have b0 := blk_grown (put3_same HB20.out _ _ _) hg3 (by simp); have b1 := blk_grown (put3_far HB21.out (Nat.succ_ne_self _) _ _ _) hg3 (by simp); have b2 := blk_grown (put3_far HB22.out m0.symm _ _ _) hg3 (by simp); have HO3 := Aside0.mk ho3; have HB3 := Aside0.mk hb3; have r3 := (HR2.out.put3 HB20.out (by decide) _ _ _).grown hg3; have HR3 := Aside0.mk r3; have c00 := (blk_cell b0 0).trans rfl; have HB30 := Aside0.mk b0; have HB31 := Aside0.mk b1; have HB32 := Aside0.mk b2; obtain ⟨bb, hbb1, hbb2⟩ := hnew_; have hl2 := blk_lt (put3_far HB22.out m0.symm (.slice A2 (T1.length + T2.length) c2) (.int .i64 E) (.int .i64 B)); have HNE := Aside0.mk (show some w1.heap.size ≠ v3.ownBlock from (fun hh => absurd (Option.some.inj (hh.trans hbb1)) (Nat.ne_of_lt (Nat.lt_of_lt_of_le hl2 hbb2)))); have hC3 := (Kd.R_reads' HR3.out).2.2; simp only [List.length_map, List.length_append] at hC3; have HC3 := Aside0.mk hC3; clear hC3 hbb1 hbb2 hl2 ho3 hb3 hg3 b0 b1 b2 r3 d00 d01 d02 d20 d21 d22 e00 e01 e02 HB20 HB21 HB22 HB2 HR2)) | (at_builtin; refine Kd.R_append_rows k49 (w0 := w) w.heap.size rfl (.tmp 27) (.tmp 29) 36 49 (.agg #[(.int .i64 0), (.int .i64 0), (.int .i64 0)]) 24 rfl Try.underlying36 info49 rfl (by decide) (by decide) v3 [s49 t] ((T1 ++ T2).map s49) _ _ _ (fun _ => True) (fun _ => False) rfl rfl HO3.out HC3.out (fun _ _ h => h) (fun _ h => h.elim) (fun _ _ => trivial) HB3.out HB3.out.size HL24.out ?_; intro v4 w4 ho hb hg _; obtain ⟨A4, c4, ev⟩ := Kd.R_slice ho; obtain ⟨n4, hn4⟩ : ∃ n4 : Nat, n4 = ([s49 t] ++ (T1 ++ T2).map s49).length := ⟨_, rfl⟩; rw [← hn4] at ev; clear hn4; subst ev; have HO4 := Aside0.mk ho; have HB4 := Aside0.mk hb; have b0 := blk_grown HB30.out hg (RL.ne HO3.out HB30.out (by decide)); have b1 := blk_grown HB31.out hg (RL.ne HO3.out HB31.out (by decide)); have b2 := blk_grown HB32.out hg HNE.out; have c40 := (blk_cell b0 0).trans rfl; have c41 := (blk_cell b0 1).trans rfl; have c42 := (blk_cell b0 2).trans rfl; have f40 := blk_frozen b0 0; have d40 := (blk_cell b1 0).trans rfl; have d41 := (blk_cell b1 1).trans rfl; have d42 := (blk_cell b1 2).trans rfl; have e40 := blk_frozen b1 0; have e41 := blk_frozen b1 1; have e42 := blk_frozen b1 2; have g41 := (blk_cell b2 1).trans rfl; have HB40 := Aside0.mk b0; have HB41 := Aside0.mk b1; clear ho hb hg b0 b1 b2 HO3 HB3 HR3 HC3 HB30 HB31 HB32 c00))
  go_region
  all_goals go_wp2
  refine bodyPost_ret (v := .tuple #[.agg #[.slice A4 n4 c4, .int .i64 E, .int .i64 B], .int .i64 t.v, .bool true]) (by simp [results, Try.results13, go_sem, d40, d41, d42]) rfl ⟨_, rfl, ?_, ?_⟩
  · have hR : RL w.heap.size w4 (.slice A4 n4 c4) (t :: (T1 ++ T2)) := HO4.out
    have h1 := hR.set HB40.out (by decide) 0 (.slice A4 n4 c4)
    have b1 := blk_far HB41.out (p := ⟨w.heap.size, 0, none⟩) (Nat.succ_ne_self _) (.slice A4 n4 c4)
    have h2 := h1.put3 b1 (by decide) (.slice A4 n4 c4) (.int .i64 E) (.int .i64 B)
    exact (h2.keep (fun _ _ _ => rfl)).lower HBB.out
  · exact below_drew (below_put3 (below_set HB4.out (Nat.le_refl _)) (Nat.le_succ _) _ _ _)
theorem ref_get.calls {base : Nat} {w : World} {v : Value} {T : List Tr} (E B k : Int) (h : RL base w v T) (hb : base ≤ w.heap.size) (hl : T.length < 5864062014805) (hn : (T.map Tr.k).Nodup) :
    Calls Try.prog 13 #[.agg #[v, .int .i64 E, .int .i64 B], .int .i64 k] w fun x w' => ∃ v', x = .returned (.tuple #[.agg #[v', .int .i64 E, .int .i64 B], .int .i64 (valT k T), .bool (hasT k T)]) ∧ RL base w' v' (usedT k T) ∧ Below w.heap.size w w' := by
  cases hk : hasT k T with
  | false =>
    refine (ref_get_no E B k h hl hk).mono ?_
    rintro x w' ⟨rfl, h1⟩
    have hu : usedT k T = T := by
      unfold usedT
      rw [List.find?_eq_none.2]
      simpa [hasT] using hk
    rw [hasT_no hk, hu]
    exact ⟨v, rfl, h.below h1, h1⟩
  | true =>
    obtain ⟨T1, t, T2, rfl, rfl, h1, _⟩ := posT_yes (i := 0) hk
    refine (ref_get_yes E B h hb hl h1 hn).mono ?_
    rintro x w' ⟨v', rfl, h2, h3⟩
    have hu : usedT t.k (T1 ++ t :: T2) = t :: (T1 ++ T2) := by
      unfold usedT
      rw [find_at_T rfl h1]
      simp only
      rw [rmT_at rfl h1 hn]
    have hv : valT t.k (T1 ++ t :: T2) = t.v := by
      unfold valT
      rw [find_at_T rfl h1]
    rw [hu, hv]
    exact ⟨v', rfl, h2, h3⟩
end Go.Proofs.Ytebmfbfmdbimdaa.F.Li
