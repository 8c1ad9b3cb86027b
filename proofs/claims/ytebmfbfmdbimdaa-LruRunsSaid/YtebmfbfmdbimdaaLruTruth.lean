/- The law of what a cache tells, walked. -/
import Derived.Test.YtebmfbfmdbimdaaLruT
import Derived.Test.YtebmfbfmdbimdaaLruAlive
import Derived.Test.YtebmfbfmdbimdaaQuads
namespace Go.Proofs.Ytebmfbfmdbimdaa.F.Li
open Go.RowKit Go.Proofs.YtebmfbfmdbimdaaW.PrintWords Go.Proofs.YtebmfbfmdbimdaaW.PrintLast Go.Proofs.YtebmfbfmdbimdaaW.PrintMore Go.Proofs.Ytebmfbfmdbimdaa.rowQ
set_option linter.unusedVariables false
set_option linter.unusedSimpArgs false
/-- The value last put under k, if there is one. -/
def lastP (k : Int) (l : List (List Int)) : Option Int := l.foldl (fun a z => if z.getD 0 0 = 1 ∧ z.getD 1 0 = k then some (z.getD 2 0) else a) none
theorem lastP_snoc (k : Int) (l : List (List Int)) (z : List Int) : lastP k (l ++ [z]) = if z.getD 0 0 = 1 ∧ z.getD 1 0 = k then some (z.getD 2 0) else lastP k l := by
  unfold lastP
  rw [List.foldl_append]
  rfl
theorem fitT_sub {E B : Int} : ∀ {T : List Tr} {t : Tr}, t ∈ fitT E B T → t ∈ T := by
  intro T
  induction T generalizing E B with
  | nil => exact fun h => h
  | cons u T ih =>
    intro t h
    rw [fitT] at h
    split at h
    · rcases List.mem_cons.1 h with rfl | h
      · simp
      · exact List.mem_cons_of_mem _ (ih h)
    · simp at h
theorem fitT_len {E B : Int} : ∀ {T : List Tr}, (fitT E B T).length ≤ T.length := by
  intro T
  induction T generalizing E B with
  | nil => exact Nat.le_refl _
  | cons u T ih =>
    rw [fitT]
    split
    · simp only [List.length_cons]
      have := ih (E := E - 1) (B := B - u.s)
      omega
    · simp
theorem mem_rmT {k : Int} {T : List Tr} {t : Tr} : t ∈ rmT k T ↔ t ∈ T ∧ t.k ≠ k := by simp [rmT]
theorem rmT_len {k : Int} {T : List Tr} : (rmT k T).length ≤ T.length := List.length_filter_le _ _
theorem putT_len {E B k v s : Int} {T : List Tr} : (putT E B k v s T).length ≤ T.length + 1 := by
  have h1 := rmT_len (k := k) (T := T)
  unfold putT
  split
  · have := fitT_len (E := E - 1) (B := B - s) (T := rmT k T)
    simp only [List.length_cons]
    omega
  · omega
theorem putT_mem {E B k v s : Int} {T : List Tr} {t : Tr} (h : t ∈ putT E B k v s T) : t = ⟨k, v, s⟩ ∨ (t ∈ T ∧ t.k ≠ k) := by
  unfold putT at h
  split at h
  · rcases List.mem_cons.1 h with rfl | h
    · exact .inl rfl
    · exact .inr (mem_rmT.1 (fitT_sub h))
  · exact .inr (mem_rmT.1 h)
theorem usedT_mem {k : Int} {T : List Tr} {t : Tr} (h : t ∈ usedT k T) : t ∈ T := by
  unfold usedT at h
  split at h
  · rename_i u hu
    rcases List.mem_cons.1 h with rfl | h
    · exact List.mem_of_find?_eq_some hu
    · exact (mem_rmT.1 h).1
  · exact h
theorem usedT_len {k : Int} {T : List Tr} (hn : (T.map Tr.k).Nodup) : (usedT k T).length ≤ T.length := by
  unfold usedT
  split
  · rename_i u hu
    have hm := List.mem_of_find?_eq_some hu
    have hk : u.k = k := by simpa using List.find?_some hu
    have : (rmT k T).length < T.length := by
      unfold rmT
      exact List.length_filter_lt_length_iff_exists.2 ⟨u, hm, by simp [hk]⟩
    simp only [List.length_cons]
    omega
  · exact Nat.le_refl _
theorem hasT_val {k : Int} {T : List Tr} (h : hasT k T = true) : ∃ t ∈ T, t.k = k ∧ valT k T = t.v := by
  unfold valT
  cases hf : T.find? (fun t => decide (t.k = k)) with
  | some u => exact ⟨u, List.mem_of_find?_eq_some hf, by simpa using List.find?_some hf, rfl⟩
  | none =>
    rw [List.find?_eq_none] at hf
    obtain ⟨t, ht, hk⟩ := List.any_eq_true.1 h
    exact absurd hk (hf t ht)
theorem hasT_no {k : Int} {T : List Tr} (h : hasT k T = false) : valT k T = 0 := by
  unfold valT
  cases hf : T.find? (fun t => decide (t.k = k)) with
  | some u =>
    have h1 := List.mem_of_find?_eq_some hf
    have h2 := List.find?_some hf
    have : hasT k T = true := List.any_eq_true.2 ⟨u, h1, h2⟩
    rw [this] at h
    cases h
  | none => rfl
theorem truth_put {pre : List (List Int)} {z : List Int} {E B : Int} {T : List Tr} (hT : ∀ t ∈ T, lastP t.k pre = some t.v) (hz : z.getD 0 0 = 1) : ∀ t ∈ putT E B (z.getD 1 0) (z.getD 2 0) (z.getD 3 0) T, lastP t.k (pre ++ [z]) = some t.v := by
  intro t ht
  rw [lastP_snoc]
  rcases putT_mem ht with rfl | ⟨h1, h2⟩
  · rw [if_pos ⟨hz, rfl⟩]
  · rw [if_neg (fun hh => h2 hh.2.symm), hT t h1]
theorem truth_get {pre : List (List Int)} {z : List Int} {k : Int} {T : List Tr} (hT : ∀ t ∈ T, lastP t.k pre = some t.v) (hz : z.getD 0 0 ≠ 1) : ∀ t ∈ usedT k T, lastP t.k (pre ++ [z]) = some t.v := by
  intro t ht
  rw [lastP_snoc, if_neg (fun hh => hz hh.1), hT t (usedT_mem ht)]
theorem take_next {α : Type} {l : List α} {n : Nat} (h : n < l.length) (d : α) : l.take (n + 1) = l.take n ++ [l.getD n d] := by
  rw [List.take_succ_eq_append_getElem h, List.getD_eq_getElem?_getD, List.getElem?_eq_getElem h]
  rfl
theorem getD_wf {l : List (List Int)} {q : Nat} (hw : ∀ z ∈ l, z.length = q ∧ ∀ y ∈ z, (Lit.int .i64 y).wf = true) {n : Nat} (h : n < l.length) {j : Nat} (hj : j < q) : (Lit.int .i64 ((l.getD n []).getD j 0)).wf = true := by
  have e : l.getD n [] = l[n] := by
    rw [List.getD_eq_getElem?_getD, List.getElem?_eq_getElem h]
    rfl
  rw [e]
  have h1 := hw _ (List.getElem_mem h)
  rw [List.getD_eq_getElem?_getD, List.getElem?_eq_getElem (by omega)]
  exact h1.2 _ (List.getElem_mem _)
set_option maxRecDepth 100000 in
set_option maxHeartbeats 4000000 in
theorem truth_no (E B : Int) (A : Option Addr) (c : Nat) (l : List (List Int)) (w : World) (hno : E < 0 ∨ B < 0) :
    Calls Try.prog 3 #[.agg #[.int .i64 E, .int .i64 B], .slice A l.length c] w fun e w' => e = .returned (.bool true) ∧ Below w.heap.size w w' := by
  have HA := Aside0.mk (fun (W : World) => Ls.alive.calls W)
  have HN := Aside0.mk (fun (W : World) => new_no (w := W) E B hno)
  have hh : (decide (E < 0) = true) ∨ (decide (E < 0) = false ∧ decide (B < 0) = true) := by
    simp only [decide_eq_true_eq, decide_eq_false_iff_not]
    omega
  clear hno
  rcases hh with h1 | ⟨h1, h2⟩
  all_goals
    go_enter Try.func3, Try.ntmps3
    go_wp2_with (first | (go_at_call 9; (with_reducible refine (HA.out _).mono ?_); rintro e w1 ⟨rfl, hb⟩; have HB1 := Aside0.mk (((Below.refl _ _).alloc (Nat.le_refl _) _).trans (hb.mono (by simp))); have b0 := blk_below (blk_new w (.cells #[.int .i64 E, .int .i64 B] 22)) hb; have c0 := (blk_cell b0 0).trans rfl; have c1 := (blk_cell b0 1).trans rfl; have hbk := Aside0.mk b0; clear hb b0) | (go_at_call 10; (with_reducible refine (HN.out _).mono ?_); rintro e w2 ⟨rfl, hb⟩; have HB2 := Aside0.mk (HB1.out.trans (hb.mono HB1.out.size)); have b0 := blk_below hbk.out hb; have d0 := (blk_cell b0 0).trans rfl; have d1 := (blk_cell b0 1).trans rfl; clear hb b0))
    go_ret
    exact ⟨rfl, HB2.out⟩
set_option maxRecDepth 100000 in
set_option maxHeartbeats 8000000 in
theorem truth_yes (E B : Int) (A : Option Addr) (c : Nat) (l : List (List Int)) (w : World) (h1 : 0 ≤ E) (h2 : 0 ≤ B) (h3 : E ≤ 9223372036854775807) (h4 : B ≤ 9223372036854775807) (hR : RowQ 4 w A l) (hl : l.length * 32 ≤ 140737488351232) (hc : l.length ≤ c) (hw : ∀ z ∈ l, z.length = 4 ∧ ∀ y ∈ z, (Lit.int .i64 y).wf = true) :
    Calls Try.prog 3 #[.agg #[.int .i64 E, .int .i64 B], .slice A l.length c] w fun e w' => e = .returned (.bool true) ∧ Below w.heap.size w w' := by
  have HA := Aside0.mk (fun (W : World) => Ls.alive.calls W)
  have HN := Aside0.mk (fun (W : World) => new_T (w := W) E B h1 h2 h3 h4)
  have HR := Aside0.mk hR
  have HW := Aside0.mk hw
  have HE := Aside0.mk (⟨h1, h3, h4⟩ : 0 ≤ E ∧ E ≤ 9223372036854775807 ∧ B ≤ 9223372036854775807)
  clear h1 h2 h3 h4 hR hw
  go_enter Try.func3, Try.ntmps3
  go_wp2_with (first | (go_at_call 9; (with_reducible refine (HA.out _).mono ?_); rintro e w1 ⟨rfl, hb⟩; have HB1 := Aside0.mk (((Below.refl _ _).alloc (Nat.le_refl _) _).trans (hb.mono (by simp))); have b0 := blk_below (blk_new w (.cells #[.int .i64 E, .int .i64 B] 22)) hb; have c0 := (blk_cell b0 0).trans rfl; have c1 := (blk_cell b0 1).trans rfl; clear hb b0) | (go_at_call 10; (with_reducible refine (HN.out _).mono ?_); rintro e w2 ⟨cc, rfl, hO, hb⟩; have HB2 := Aside0.mk (HB1.out.trans (hb.mono HB1.out.size)); have HO2 := Aside0.mk hO; have HBB := Aside0.mk HB1.out.size; have HW12 := Aside0.mk hb.size; have n1 : ∀ (W : World), (binOp BinOp.eql 25 (.pointer (some ⟨cc, 0, none⟩)) (.pointer none)).run Try.prog W = .ok (.bool false) W := (fun _ => by kernel_rfl); clear hb hO c0 c1))
  go_loopw [45] (fun s wr => ∃ (n : Nat) (T : List Tr), s = .int .i64 (n : Int) ∧ Aside0 (n ≤ l.length) ∧ Aside0 (OwnT w1.heap.size wr cc E B T) ∧ Aside0 (∀ t ∈ T, lastP t.k (l.take n) = some t.v) ∧ Aside0 (T.length ≤ n) ∧ Aside0 (Below w.heap.size w wr) ∧ Aside0 (w1.heap.size ≤ wr.heap.size)) (fun s _ => l.length - (intOf s).toNat)
  case atStart => exact ⟨0, [], rfl, ⟨Nat.zero_le _⟩, HO2, ⟨fun t ht => by simp at ht⟩, ⟨Nat.le_refl _⟩, HB2, ⟨HW12.out⟩⟩
  case round =>
    clear HB2 HO2
    obtain ⟨n, T, rfl, HNl, HO, HT, HTL, HB, HS⟩ := hrel
    by_cases hlt : n < l.length
    · obtain ⟨x, rfl, k0, hcell⟩ := (HR.out.below HB.out).cell0 (by decide) hlt
      have k1 := hcell 1 (by decide) (by decide)
      have k2 := hcell 2 (by decide) (by decide)
      have k3 := hcell 3 (by decide) (by decide)
      clear hcell
      have hnx := take_next hlt []
      have hwf := fun j (hj : j < 4) => getD_wf HW.out hlt hj
      have HP := fun hz => truth_put (z := l.getD n []) (E := E) (B := B) HT.out hz
      have HG := fun hz => truth_get (z := l.getD n []) (k := (l.getD n []).getD 1 0) HT.out hz
      rw [← hnx] at HP HG
      have W1 := Aside0.mk (hwf 1 (by decide))
      clear hwf
      generalize (l.getD n []).getD 0 0 = z0 at *
      generalize (l.getD n []).getD 1 0 = z1 at *
      generalize (l.getD n []).getD 2 0 = z2 at *
      generalize (l.getD n []).getD 3 0 = z3 at *
      have HNX := Aside0.mk hnx
      clear hnx
      by_cases hz : z0 = 1
      · have HP := Aside0.mk (HP hz)
        have hzz : (z0 == 1) = true := by simp [hz]
        clear HG hz
        go_wp2_with (go_at_call 11; (with_reducible refine (put_T (HO.out.below (below_alloc (Below.refl _ _) _)) (by simp; have := HS.out; omega) W1.out z2 z3 HE.out.1 HE.out.2.1 HE.out.2.2 (by have := HTL.out; simp only [maxLen]; omega)).mono ?_); rintro e w3 ⟨rfl, hO, hB, hK⟩; have HO3 := Aside0.mk hO; have HB3 := Aside0.mk hB; clear hO hB hK)
        go_roundw
        case rel =>
          have hs := HB3.out.size
          simp at hs
          exact ⟨n + 1, _, by go_num, ⟨by omega⟩, HO3, HP, ⟨by have := putT_len (E := E) (B := B) (k := z1) (v := z2) (s := z3) (T := T); have := HTL.out; omega⟩, ⟨HB.out.trans ((Below.alloc (Below.refl _ _) HB.out.size _).trans (HB3.out.mono HBB.out))⟩, ⟨by have := HS.out; omega⟩⟩
        case measure => simp [intOf]; omega
      · have HG := Aside0.mk (HG hz)
        have hzz : (z0 == 1) = false := by simp [hz]
        clear HP hz
        have hv : (hasT z1 T = true ∧ lastP z1 (l.take n) = some (valT z1 T)) ∨ (hasT z1 T = false ∧ valT z1 T = 0) := by
          cases hh : hasT z1 T with
          | true =>
            obtain ⟨t, ht, hk, hv⟩ := hasT_val hh
            refine .inl ⟨rfl, ?_⟩
            rw [hv, ← HT.out t ht, hk]
          | false => exact .inr ⟨rfl, hasT_no hh⟩
        generalize hq : hasT z1 T = bq at hv
        generalize hr : valT z1 T = vq at hv
        have HQ := Aside0.mk hq
        have HQ2 := Aside0.mk hr
        have HV := Aside0.mk hv
        clear hq hr hv
        go_wp2_with (go_at_call 12; (with_reducible refine (get_T (HO.out.below (below_alloc (Below.refl _ _) _)) (by simp; have := HS.out; omega) W1.out).mono ?_); rintro e w3 ⟨rfl, hO, hB, hK⟩; rw [HQ.out, HQ2.out]; have HO3 := Aside0.mk hO; have HB3 := Aside0.mk hB; have hb3 := hK _ _ _ (blk_new _ _) (by decide) (by decide); have c81 := (blk_cell hb3 1).trans rfl; have HK3 := Aside0.mk hb3; clear hO hB hK hb3)
        have HS3 := Aside0.mk HB3.out.size
        have HBW : Aside0 (Below w.heap.size w w3) := ⟨HB.out.trans ((Below.alloc (Below.refl _ _) HB.out.size _).trans (HB3.out.mono HBB.out))⟩
        clear c81 HB
        obtain ⟨wo, rfl⟩ : ∃ wo : World, wo = wr := ⟨_, rfl⟩
        obtain ⟨g, hg⟩ : ∃ g, g = wo.heap.size := ⟨_, rfl⟩
        rw [← hg] at HK3 ⊢
        have HGW := Aside0.mk hg
        clear hg
        go_loopw [11, 12, 72] (fun s11 s12 s72 wi => ∃ (m : Nat) (p : Int) (b : Bool), s11 = .int .i64 p ∧ s12 = .bool b ∧ s72 = .int .i64 (m : Int) ∧ Aside0 (m ≤ n) ∧ Aside0 (p = (lastP z1 (l.take m)).getD 0 ∧ b = (lastP z1 (l.take m)).isSome) ∧ Aside0 (wi.heap[g]? = some (.cells #[.int .i64 z0, .int .i64 z1, .int .i64 z2, .int .i64 z3] 30 (0, 0))) ∧ Aside0 (OwnT w1.heap.size wi cc E B (usedT z1 T)) ∧ Aside0 (Below w.heap.size w wi) ∧ Aside0 (w3.heap.size ≤ wi.heap.size)) (fun _ _ s72 _ => l.length - (intOf s72).toNat)
        case atStart => exact ⟨0, 0, false, rfl, rfl, rfl, ⟨Nat.zero_le _⟩, ⟨rfl, rfl⟩, HK3, HO3, HBW, ⟨Nat.le_refl _⟩⟩
        case round =>
          obtain ⟨m, p, b, rfl, rfl, rfl, HM, HPB, HKi, HOi, HBi, HSi⟩ := hrel
          have g1 : wr.cell? ⟨g, 1, none⟩ = some (.int .i64 z1) := (blk_cell HKi.out 1).trans rfl
          have gl := blk_lt HKi.out
          by_cases hmn : m < n
          · obtain ⟨x', hx, i0, hcell⟩ := (HR.out.below HBi.out).cell0 (by decide) (show m < l.length by omega)
            injection hx with hx
            subst hx
            have i1 := hcell 1 (by decide) (by decide)
            have i2 := hcell 2 (by decide) (by decide)
            have i3 := hcell 3 (by decide) (by decide)
            clear hcell
            have HSN := Aside0.mk (lastP_snoc z1 (l.take m) (l.getD m []))
            rw [← take_next (show m < l.length by omega) []] at HSN
            generalize (l.getD m []).getD 0 0 = y0 at *
            generalize (l.getD m []).getD 1 0 = y1 at *
            generalize (l.getD m []).getD 2 0 = y2 at *
            generalize (l.getD m []).getD 3 0 = y3 at *
            have HNew : ∀ (wn : World), wn = wr.alloc (.cells #[.int .i64 y0, .int .i64 y1, .int .i64 y2, .int .i64 y3] 30) → Aside0 (wn.heap[g]? = some (.cells #[.int .i64 z0, .int .i64 z1, .int .i64 z2, .int .i64 z3] 30 (0, 0))) ∧ Aside0 (OwnT w1.heap.size wn cc E B (usedT z1 T)) ∧ Aside0 (Below w.heap.size w wn) ∧ Aside0 (w3.heap.size ≤ wn.heap.size) := by
              rintro _ rfl
              exact ⟨⟨blk_alloc HKi.out _⟩, ⟨HOi.out.below (below_alloc (Below.refl _ _) _)⟩, ⟨HBi.out.alloc HBi.out.size _⟩, ⟨by simp; have := HSi.out; omega⟩⟩
            have HNE := Aside0.mk (HNew _ rfl)
            clear HNew
            by_cases hy0 : y0 = 1
            · have e0 : (y0 == 1) = true := by simp [hy0]
              by_cases hy1 : y1 = z1
              · have e1 : (y1 == z1) = true := by simp [hy1]
                have HSN2 : Aside0 (y2 = (lastP z1 (l.take (m + 1))).getD 0 ∧ true = (lastP z1 (l.take (m + 1))).isSome) := ⟨by rw [HSN.out, if_pos ⟨hy0, hy1⟩]; exact ⟨rfl, rfl⟩⟩
                clear hy0 hy1 HSN
                go_wp2
                go_roundw
                case rel => exact ⟨m + 1, y2, true, rfl, rfl, by go_num, ⟨by omega⟩, HSN2, HNE.out⟩
                case measure => simp [intOf]; omega
              · have e1 : (y1 == z1) = false := by simp [hy1]
                have HSN2 : Aside0 (p = (lastP z1 (l.take (m + 1))).getD 0 ∧ b = (lastP z1 (l.take (m + 1))).isSome) := ⟨by rw [HSN.out, if_neg (fun hh => hy1 hh.2)]; exact HPB.out⟩
                clear hy0 hy1 HSN
                go_wp2
                go_roundw
                case rel => exact ⟨m + 1, p, b, rfl, rfl, by go_num, ⟨by omega⟩, HSN2, HNE.out⟩
                case measure => simp [intOf]; omega
            · have e0 : (y0 == 1) = false := by simp [hy0]
              have HSN2 : Aside0 (p = (lastP z1 (l.take (m + 1))).getD 0 ∧ b = (lastP z1 (l.take (m + 1))).isSome) := ⟨by rw [HSN.out, if_neg (fun hh => hy0 hh.1)]; exact HPB.out⟩
              clear hy0 HSN
              go_wp2
              go_roundw
              case rel => exact ⟨m + 1, p, b, rfl, rfl, by go_num, ⟨by omega⟩, HSN2, HNE.out⟩
              case measure => simp [intOf]; omega
          · obtain rfl : m = n := by have := HM.out; omega
            have hsz : w1.heap.size ≤ wr.heap.size := by
              have h3 := HS3.out
              have h4 := HSi.out
              simp at h3
              have := HS.out
              omega
            have HEND := Aside0.mk hsz
            have HUL : Aside0 ((usedT z1 T).length ≤ m + 1) := ⟨by have := usedT_len (k := z1) HO.out.kn.1; have := HTL.out; omega⟩
            rcases HV.out with ⟨h1, h2⟩ | ⟨h1, h2⟩
            · have hp := HPB.out
              rw [h2] at hp
              obtain ⟨rfl, rfl⟩ : p = vq ∧ b = true := hp
              subst h1
              clear h2 hmn hsz
              go_wp2
              go_roundw
              case rel => exact ⟨m + 1, _, by go_num, ⟨by omega⟩, HOi, HG, HUL, HBi, HEND⟩
              case measure => simp [intOf]; omega
            · subst h1
              subst h2
              clear hmn hsz
              go_wp2
              go_roundw
              case rel => exact ⟨m + 1, _, by go_num, ⟨by omega⟩, HOi, HG, HUL, HBi, HEND⟩
              case measure => simp [intOf]; omega
    · go_wp2
      go_ret
      exact ⟨rfl, HB.out⟩
end Go.Proofs.Ytebmfbfmdbimdaa.F.Li
