/- The document's answer for a cache, walked: a key dropped, got, put. -/
import Derived.Test.YtebmfbfmdbimdaaLruRef
namespace Go.Proofs.Ytebmfbfmdbimdaa.F.Li
open Go.RowKit Go.Proofs.YtebmfbfmdbimdaaW.PrintWords Go.Proofs.YtebmfbfmdbimdaaW.PrintLast Go.Proofs.YtebmfbfmdbimdaaW.PrintMore Go.Proofs.Ytebmfbfmdbimdaa.rowQ Go.Proofs.Ytebmfbfmdbimdaa.R
set_option linter.unusedVariables false
set_option linter.unusedSimpArgs false
/-- A slice of entries of the call's own. -/
def RL (base : Nat) (w : World) (v : Value) (T : List Tr) : Prop := Kd.R k49 49 w base (fun _ => True) v (T.map s49)
theorem RL.slice {base : Nat} {w : World} {v : Value} {T : List Tr} (h : RL base w v T) : ∃ A c, v = .slice A T.length c ∧ T.length ≤ c ∧ Kd.C k49 w A (T.map s49).length (T.map s49) := by
  obtain ⟨A, c, rfl⟩ := Kd.R_slice h
  have h2 := Kd.R_reads' h
  exact ⟨A, c, by rw [List.length_map], by simpa using h2.2.1, h2.2.2⟩
theorem RL.keep {base : Nat} {w w' : World} {v : Value} {T : List Tr} (h : RL base w v T) (hk : ∀ (g : Nat) (cells : Array Value), w.heap[g]? = some (.cells cells 49 (0, 0)) → w'.heap[g]? = w.heap[g]?) : RL base w' v T :=
  Kd.R_mono (Kd.R_move (Kd.R_bound h) (fun k hk' => by
    obtain ⟨_, _, _, q, hq, cells, hc⟩ := hk'
    have : q = 49 := by simpa [k49, Kd.iso, Kd.pair, Kd.int, Kd.scalar] using hq
    subst this
    exact hk k cells hc)) (fun _ _ => trivial)
theorem RL.below {base : Nat} {w w' : World} {v : Value} {T : List Tr} (h : RL base w v T) (hb : Below w.heap.size w w') : RL base w' v T := h.keep (fun g cells hg => hb.block g (blk_lt hg))
theorem RL.kp {base : Nat} {w w' : World} {v : Value} {T : List Tr} (h : RL base w v T) (hb : Kp w w') : RL base w' v T := h.keep (fun g cells hg => (hb g cells _ hg (by decide) (by decide)).trans hg.symm)
theorem RL.set {base : Nat} {w : World} {v : Value} {T : List Tr} (h : RL base w v T) {g : Nat} {cs : Array Value} {ty : TypeId} (hg : w.heap[g]? = some (.cells cs ty (0, 0))) (ht : ty ≠ 49) (i : Nat) (u : Value) : RL base (w.setCell ⟨g, i, none⟩ u) v T :=
  h.keep (fun g' cells hg' => Below.heap_setCell w _ u g' (blk_ne hg' hg (fun hh => ht hh.symm)))
theorem RL.nil (base : Nat) (w : World) : RL base w (.slice none 0 0) [] := Kd.R_nil _ _ _ _ _
theorem two_blocks {w w1 : World} {cs1 cs2 : Array Value} {t1 t2 : TypeId} (hb : Below ((w.alloc (.cells cs1 t1)).alloc (.cells cs2 t2)).heap.size ((w.alloc (.cells cs1 t1)).alloc (.cells cs2 t2)) w1) :
    w1.heap[w.heap.size]? = some (.cells cs1 t1 (0, 0)) ∧ w1.heap[w.heap.size + 1]? = some (.cells cs2 t2 (0, 0)) ∧ Below w.heap.size w w1 := by
  have h1 := blk_below (blk_alloc (blk_new w (.cells cs1 t1)) (.cells cs2 t2)) hb
  have h2 := blk_below (blk_new (w.alloc (.cells cs1 t1)) (.cells cs2 t2)) hb
  have e : (w.alloc (.cells cs1 t1)).heap.size = w.heap.size + 1 := by simp
  rw [e] at h2
  exact ⟨h1, h2, below_then (below_alloc (below_alloc (Below.refl w.heap.size w) _) _) (by simp; omega) hb⟩
set_option maxRecDepth 100000 in
set_option maxHeartbeats 8000000 in
theorem ref_drop_no {base : Nat} {w : World} {v : Value} {T : List Tr} (E B k : Int) (h : RL base w v T) (hl : T.length < 5864062014805) (hk : hasT k T = false) :
    Calls Try.prog 15 #[.agg #[v, .int .i64 E, .int .i64 B], .int .i64 k] w fun x w' => x = .returned (.tuple #[.agg #[v, .int .i64 E, .int .i64 B], .bool false]) ∧ Below w.heap.size w w' := by
  obtain ⟨A, c, rfl, hc, hr⟩ := h.slice
  obtain ⟨kk, hf⟩ := at_f k T E B (by omega)
  rw [posT_no hk] at hf
  have HA := Aside0.mk (fun (W : World) (hb : Below w.heap.size w W) => serifref23_At.calls kk A c (T.map s49) E B k (-1) W (Kd.C_below hr hb) (by simpa using hc) hf)
  rw [List.length_map] at HA
  clear h hr hf hk hc hl
  go_enter Try.func15, Try.ntmps15
  go_wp2_with (go_at_call 38; (with_reducible refine (HA.out _ (below_alloc (below_alloc (Below.refl _ _) _) _)).mono ?_); rintro e w1 ⟨rfl, hb⟩; obtain ⟨b0, b1, hb1⟩ := two_blocks hb; have c00 := (blk_cell b0 0).trans rfl; have c01 := (blk_cell b0 1).trans rfl; have c02 := (blk_cell b0 2).trans rfl; have c10 := (blk_cell b1 0).trans rfl; have c11 := (blk_cell b1 1).trans rfl; have c12 := (blk_cell b1 2).trans rfl; have f10 := blk_frozen b1 0; have f11 := blk_frozen b1 1; have f12 := blk_frozen b1 2; have HB1 := Aside0.mk hb1; have HB11 := Aside0.mk b1; clear hb b0 b1 hb1)
  refine bodyPost_ret (v := .tuple #[.agg #[.slice A T.length c, .int .i64 E, .int .i64 B], .bool false]) (by simp [results, Try.results15, go_sem, c10, c11, c12]) rfl ⟨rfl, ?_⟩
  exact below_set (below_set (below_set HB1.out (Nat.le_succ _)) (Nat.le_succ _)) (Nat.le_succ _)
/-- The block of a row of entries is none of another type. -/
theorem RL.ne {base : Nat} {w : World} {v : Value} {l : List S49} (h : Kd.R k49 49 w base (fun _ => True) v l) {g : Nat} {cs : Array Value} {ty : TypeId} (hg : w.heap[g]? = some (.cells cs ty (0, 0))) (ht : ty ≠ 49) : some g ≠ v.ownBlock := by
  intro hh
  obtain ⟨_, _, _, q, hq, cells, hc⟩ := (Kd.R_bound h).1 g hh.symm
  have : q = 49 := by simpa [k49, Kd.iso, Kd.pair, Kd.int, Kd.scalar] using hq
  subst this
  rw [hg] at hc
  injection hc with hc
  injection hc with _ hc
  exact ht hc
set_option maxRecDepth 100000 in
set_option maxHeartbeats 8000000 in
theorem ref_drop_yes {base : Nat} {w : World} {v : Value} {T1 T2 : List Tr} {t : Tr} (E B : Int) (h : RL base w v (T1 ++ t :: T2)) (hl : (T1 ++ t :: T2).length < 5864062014805) (hk : hasT t.k T1 = false) :
    Calls Try.prog 15 #[.agg #[v, .int .i64 E, .int .i64 B], .int .i64 t.k] w fun x w' => ∃ v', x = .returned (.tuple #[.agg #[v', .int .i64 E, .int .i64 B], .bool true]) ∧ RL w.heap.size w' v' (T1 ++ T2) ∧ Below w.heap.size w w' := by
  obtain ⟨A, c, rfl, hc, hr⟩ := h.slice
  obtain ⟨kk, hf⟩ := at_f t.k (T1 ++ t :: T2) E B (by omega)
  have hpos : posT t.k (T1 ++ t :: T2) 0 = (T1.length : Int) := by
    have : ∀ (T1 : List Tr) (i : Nat), hasT t.k T1 = false → posT t.k (T1 ++ t :: T2) i = ((i + T1.length : Nat) : Int) := by
      intro T1
      induction T1 with
      | nil => intro i _; rw [List.nil_append, posT, if_pos rfl]; rfl
      | cons u T1 ih =>
        intro i h
        simp only [hasT, List.any_cons, Bool.or_eq_false_iff, decide_eq_false_iff_not] at h
        rw [List.cons_append, posT, if_neg h.1, ih (i + 1) h.2, List.length_cons]
        omega
    rw [this T1 0 hk]
    simp
  rw [hpos] at hf
  have HA := Aside0.mk (fun (W : World) (hb : Below w.heap.size w W) => serifref23_At.calls kk A c ((T1 ++ t :: T2).map s49) E B t.k _ W (Kd.C_below hr hb) (by simpa using hc) hf)
  rw [List.length_map] at HA
  obtain ⟨i0, hi, _, hsz, _⟩ := info_parts info49
  have hn : (T1 ++ t :: T2).length = T1.length + 1 + T2.length := by simp; omega
  have hcut1 := cut_to (P := Try.prog) 36 49 .i64 Try.underlying36 hi A (T1 ++ t :: T2).length c (T1.length : Int) (by omega) (by omega) hc
  have hcut2 := cut_from (P := Try.prog) 36 49 .i64 Try.underlying36 hi 3 hsz A (T1 ++ t :: T2).length c ((T1.length : Int) + 1) (by omega) (by omega)
  have hC1 := Kd.C_take (m := T1.length) hr (by simp)
  have hC2 := Kd.C_drop (m := T1.length + 1) (c := c) hr (by simp) (by simpa using hc)
  have e0 : ((T1.length : Int) + 1).toNat = T1.length + 1 := by omega
  have e1 : ((T1 ++ t :: T2).map s49).take T1.length = T1.map s49 := by rw [← List.map_take, List.take_left]
  have e2 : ((T1 ++ t :: T2).map s49).drop (T1.length + 1) = T2.map s49 := by rw [← List.map_drop, List.drop_append, List.drop_of_length_le (by omega)]; simp
  rw [e0] at hcut2
  rw [Int.toNat_natCast] at hcut1
  rw [e1] at hC1
  rw [e2] at hC2
  have e3 : (T1 ++ t :: T2).length - (T1.length + 1) = T2.length := by rw [hn]; omega
  rw [e3] at hcut2
  rw [show k49.sz = 3 from rfl] at hC2
  generalize (if c = T1.length + 1 then A else A.map (·.add ((T1.length + 1) * 3))) = A2 at hcut2 hC2
  have e4 : (T1.map s49).length = T1.length := List.length_map ..
  have e5 : (T2.map s49).length = T2.length := List.length_map ..
  rw [e4] at hC1
  rw [e5] at hC2
  have HC1 := Aside0.mk hC1
  have HC2 := Aside0.mk hC2
  have HLN : Aside0 (((([] : List S49).length + (T1.map s49).length) * 24 ≤ 140737488355328) ∧ ((T1.map s49).length + (T2.map s49).length) * 24 ≤ 140737488355328) := ⟨by simp; constructor <;> omega⟩
  have hwr : IntKind.i64.wrap ((T1.length : Int) + 1) = (T1.length : Int) + 1 := IntWalk.i64_in _ (by omega)
  have ha : T1.length ≤ 5864062014805 := by omega
  generalize hN : (T1 ++ t :: T2).length = N at *
  clear h hr hf hk hc hl hC1 hC2 e0 e1 e2 e3 e4 e5 hn hpos hN hi hsz
  go_enter Try.func15, Try.ntmps15
  go_wp2_with (first | (go_at_call 38; (with_reducible refine (HA.out _ (below_alloc (below_alloc (Below.refl _ _) _) _)).mono ?_); rintro e w1 ⟨rfl, hb⟩; obtain ⟨b0, b1, hb1⟩ := two_blocks hb; have c00 := (blk_cell b0 0).trans rfl; have HB1 := Aside0.mk hb1; have HB10 := Aside0.mk b0; have HB11 := Aside0.mk b1; clear hb b0 b1 hb1) | ((with_reducible refine gate_dst (N := 14) rfl ?_); refine Kd.R_lit k49 w.heap.size 49 ?hg (N := 14) ?hd (xs := ([] : List S49)) (inner := []) (ok := fun _ => True) (okp := fun _ => True) ?hr ?hp (fun _ hk => hk) trivial HB1.out HB1.out.size (by simp) ?_; (case hd => rfl); (case hg => rfl); (case hr => first | (go_simp; done) | (go_simp; rfl)); (case hp => exact (Reps.none _ _)); intro v2 w2 ho2 hb2 hg_ hnew_; have HO2 := Aside0.mk ho2; have HB2 := Aside0.mk hb2; have HB20 := Aside0.mk (blk_grown HB10.out hg_ (by simp)); have HB21 := Aside0.mk (blk_grown HB11.out hg_ (by simp)); have c20 := (blk_cell HB20.out 0).trans rfl; clear ho2 hb2 hg_ hnew_ HB1 HB10 HB11 c00) | (at_builtin; refine Kd.R_append_rows k49 (w0 := w) w.heap.size rfl (.tmp 14) (.tmp 18) 36 49 (.agg #[(.int .i64 0), (.int .i64 0), (.int .i64 0)]) 24 rfl Try.underlying36 info49 rfl (by decide) (by decide) v2 [] (T1.map s49) _ _ _ (fun _ => True) (fun _ => False) rfl rfl HO2.out (Kd.C_below HC1.out HB2.out) (fun _ _ h => h) (fun _ h => h.elim) (fun _ _ => trivial) HB2.out HB2.out.size (by simpa using HLN.out.1) ?_; intro v3 w3 ho hb hg _; have HO3 := Aside0.mk ho; have HB3 := Aside0.mk hb; have HB30 := Aside0.mk (blk_grown HB20.out hg (RL.ne HO2.out HB20.out (by decide))); have HB31 := Aside0.mk (blk_grown HB21.out hg (RL.ne HO2.out HB21.out (by decide))); have c30 := (blk_cell HB30.out 0).trans rfl; have f30 := blk_frozen HB30.out 0; clear ho hb hg HO2 HB2 HB20 HB21 c20) | (at_builtin; refine Kd.R_append_rows k49 (w0 := w) w.heap.size rfl (.tmp 20) (.tmp 25) 36 49 (.agg #[(.int .i64 0), (.int .i64 0), (.int .i64 0)]) 24 rfl Try.underlying36 info49 rfl (by decide) (by decide) v3 ([] ++ T1.map s49) (T2.map s49) _ _ _ (fun _ => True) (fun _ => False) rfl rfl HO3.out (Kd.C_below HC2.out HB3.out) (fun _ _ h => h) (fun _ h => h.elim) (fun _ _ => trivial) HB3.out HB3.out.size (by simpa using HLN.out.2) ?_; intro v4 w4 ho hb hg _; obtain ⟨A4, c4, ev⟩ := Kd.R_slice ho; simp only [List.length_append, List.length_nil, List.length_map, Nat.zero_add] at ev; subst ev; have HO4 := Aside0.mk ho; have HB4 := Aside0.mk hb; have b0 := blk_grown HB30.out hg (RL.ne HO3.out HB30.out (by decide)); have b1 := blk_grown HB31.out hg (RL.ne HO3.out HB31.out (by decide)); have c40 := (blk_cell b0 0).trans rfl; have c41 := (blk_cell b0 1).trans rfl; have c42 := (blk_cell b0 2).trans rfl; have f40 := blk_frozen b0 0; have c50 := (blk_cell b1 0).trans rfl; have c51 := (blk_cell b1 1).trans rfl; have c52 := (blk_cell b1 2).trans rfl; have f50 := blk_frozen b1 0; have f51 := blk_frozen b1 1; have f52 := blk_frozen b1 2; have HB40 := Aside0.mk b0; have HB41 := Aside0.mk b1; clear ho hb hg b0 b1 HO3 HB3 HB30 HB31 c30 f30))
  refine bodyPost_ret (v := .tuple #[.agg #[.slice A4 (T1.length + T2.length) c4, .int .i64 E, .int .i64 B], .bool true]) (by simp [results, Try.results15, go_sem, c50, c51, c52]) rfl ⟨_, rfl, ?_, ?_⟩
  · have hR : RL w.heap.size w4 (.slice A4 (T1.length + T2.length) c4) (T1 ++ T2) := by
      have := HO4.out
      rw [List.nil_append, ← List.map_append] at this
      exact this
    have h1 := hR.set HB40.out (by decide) 0 (.slice A4 (T1.length + T2.length) c4)
    have b1 := blk_far HB41.out (p := ⟨w.heap.size, 0, none⟩) (Nat.succ_ne_self _) (.slice A4 (T1.length + T2.length) c4)
    have h2 := h1.set b1 (by decide) 0 (.slice A4 (T1.length + T2.length) c4)
    have b2 := blk_set b1 0 (.slice A4 (T1.length + T2.length) c4)
    have h3 := h2.set b2 (by decide) 1 (.int .i64 E)
    have b3 := blk_set b2 1 (.int .i64 E)
    exact h3.set b3 (by decide) 2 (.int .i64 B)
  · exact below_set (below_set (below_set (below_set HB4.out (Nat.le_refl _)) (Nat.le_succ _)) (Nat.le_succ _)) (Nat.le_succ _)
end Go.Proofs.Ytebmfbfmdbimdaa.F.Li
