/- The law of what a cache with room for all keeps, walked. -/
import Derived.Test.YtebmfbfmdbimdaaLruTruth
namespace Go.Proofs.Ytebmfbfmdbimdaa.F.Li
open Go.RowKit Go.Proofs.YtebmfbfmdbimdaaW.PrintWords Go.Proofs.YtebmfbfmdbimdaaW.PrintLast Go.Proofs.YtebmfbfmdbimdaaW.PrintMore Go.Proofs.Ytebmfbfmdbimdaa.rowQ
set_option linter.unusedVariables false
set_option linter.unusedSimpArgs false
/-- The last value under k, if there is one. -/
def lastQ (k : Int) (l : List (List Int)) : Option Int := l.foldl (fun a z => if z.getD 1 0 = k then some (z.getD 2 0) else a) none
theorem lastQ_snoc (k : Int) (l : List (List Int)) (z : List Int) : lastQ k (l ++ [z]) = if z.getD 1 0 = k then some (z.getD 2 0) else lastQ k l := by
  unfold lastQ
  rw [List.foldl_append]
  rfl
def look (k : Int) (T : List Tr) : Option Int := (T.find? (fun t => decide (t.k = k))).map Tr.v
theorem look_val {k : Int} {T : List Tr} {p : Int} (h : look k T = some p) : hasT k T = true ∧ valT k T = p := by
  unfold look at h
  unfold valT
  cases hf : T.find? (fun t => decide (t.k = k)) with
  | none => rw [hf] at h; simp at h
  | some u =>
    rw [hf] at h
    simp at h
    have h2 := List.find?_some hf
    exact ⟨List.any_eq_true.2 ⟨u, List.mem_of_find?_eq_some hf, h2⟩, h⟩
theorem look_rm {k k' : Int} {T : List Tr} (h : k' ≠ k) : look k' (rmT k T) = look k' T := by
  unfold look rmT
  rw [List.find?_filter]
  congr 2
  funext t
  by_cases h1 : t.k = k'
  · simp [h1, h]
  · simp [h1]
theorem look_used {k k' : Int} {T : List Tr} : look k' (usedT k T) = look k' T := by
  unfold usedT
  cases hf : T.find? (fun t => decide (t.k = k)) with
  | none => rfl
  | some u =>
    have hu : u.k = k := by simpa using List.find?_some hf
    by_cases h : k' = k
    · subst h
      unfold look
      rw [hf]
      simp [hu]
    · rw [← look_rm (k := k) (T := T) h]
      unfold look
      simp only [List.find?_cons]
      rw [show decide (u.k = k') = false from by simp [hu]; exact fun hh => h hh.symm]
theorem putT_room {E B k v s : Int} {T : List Tr} (h0 : 0 ≤ s) (h1 : s ≤ B) (h2 : 0 < E) (hp : ∀ t ∈ T, 0 ≤ t.s) (hl : (T.length : Int) ≤ E - 1) (ht : totT T ≤ B - s) : putOk E B s = true ∧ putT E B k v s T = ⟨k, v, s⟩ :: rmT k T := by
  have ho : putOk E B s = true := by
    simp [putOk]
    omega
  refine ⟨ho, ?_⟩
  unfold putT
  rw [if_pos ho]
  have hr := rmT_len (k := k) (T := T)
  rw [fit_all (fun t ht => hp t (mem_rmT.1 ht).1) (by omega)]
  have : totT (rmT k T) ≤ totT T := by
    clear hl ht hr
    induction T with
    | nil => exact Int.le_refl _
    | cons t T ih =>
      have h3 := ih (fun t' h' => hp t' (by simp [h']))
      have h4 := hp t (by simp)
      unfold rmT at h3 ⊢
      rw [List.filter_cons]
      split
      · rw [totT_cons, totT_cons]
        omega
      · rw [totT_cons]
        omega
  omega
/-- What is known of the entries after the operations pre have been put. -/
structure Kept (pre : List (List Int)) (T : List Tr) : Prop where
  len : T.length ≤ pre.length
  pos : ∀ t ∈ T, 0 ≤ t.s
  tot : totT T ≤ pre.length * 2147483648
  at_ : ∀ k, look k T = lastQ k pre
theorem rm_tot {k : Int} : ∀ {T : List Tr}, (∀ t ∈ T, 0 ≤ t.s) → totT (rmT k T) ≤ totT T
  | [], _ => Int.le_refl _
  | t :: T, hp => by
    have h3 := rm_tot (k := k) (T := T) (fun t' h' => hp t' (by simp [h']))
    have h4 := hp t (by simp)
    unfold rmT at h3 ⊢
    rw [List.filter_cons]
    split
    · rw [totT_cons, totT_cons]
      omega
    · rw [totT_cons]
      omega
theorem Kept.put {pre : List (List Int)} {T : List Tr} (h : Kept pre T) {z : List Int} (h0 : 0 ≤ z.getD 3 0) (h1 : z.getD 3 0 ≤ 2147483648) : Kept (pre ++ [z]) (⟨z.getD 1 0, z.getD 2 0, z.getD 3 0⟩ :: rmT (z.getD 1 0) T) := by
  have hr := rmT_len (k := z.getD 1 0) (T := T)
  have hl := h.len
  have ht := h.tot
  have hq := rm_tot (k := z.getD 1 0) h.pos
  refine ⟨by simp only [List.length_append, List.length_cons, List.length_nil]; omega, fun t ht => ?_, ?_, fun k => ?_⟩
  · rcases List.mem_cons.1 ht with rfl | ht
    · exact h0
    · exact h.pos t (mem_rmT.1 ht).1
  · rw [totT_cons]
    simp only [List.length_append, List.length_cons, List.length_nil]
    omega
  · rw [lastQ_snoc]
    by_cases hk : z.getD 1 0 = k
    · rw [if_pos hk]
      unfold look
      simp only [List.find?_cons, hk, decide_true]
      rfl
    · rw [if_neg hk, ← h.at_ k, ← look_rm (k := z.getD 1 0) (T := T) (fun hh => hk hh.symm)]
      unfold look
      simp only [List.find?_cons]
      rw [decide_eq_false hk]
set_option maxRecDepth 100000 in
set_option maxHeartbeats 8000000 in
theorem keeps.calls (A : Option Addr) (c : Nat) (l : List (List Int)) (w : World) (hR : RowQ 4 w A l) (hl : l.length ≤ 1048576) (hc : l.length ≤ c) (hw : ∀ z ∈ l, z.length = 4 ∧ ∀ y ∈ z, (Lit.int .i64 y).wf = true) :
    Calls Try.prog 4 #[.slice A l.length c] w fun e w' => e = .returned (.bool true) ∧ Below w.heap.size w w' := by
  have HA := Aside0.mk (fun (W : World) => Ls.alive.calls W)
  have HN := Aside0.mk (fun (W : World) => new_T (w := W) (l.length : Int) 4611686018427387904 (by omega) (by decide) (by omega) (by decide))
  have HR := Aside0.mk hR
  have HW := Aside0.mk hw
  clear hR hw
  go_enter Try.func4, Try.ntmps4
  go_wp2_with (first | (go_at_call 9; (with_reducible refine (HA.out _).mono ?_); rintro e w1 ⟨rfl, hb⟩; have HB1 := Aside0.mk hb; clear hb) | (go_at_call 10; (with_reducible refine (HN.out _).mono ?_); rintro e w2 ⟨cc, rfl, hO, hb⟩; have HB2 := Aside0.mk (HB1.out.trans (hb.mono HB1.out.size)); have HO2 := Aside0.mk hO; have HBB := Aside0.mk HB1.out.size; have HW12 := Aside0.mk hb.size; have n1 : ∀ (W : World), (binOp BinOp.eql 25 (.pointer (some ⟨cc, 0, none⟩)) (.pointer none)).run Try.prog W = .ok (.bool false) W := (fun _ => by kernel_rfl); clear hb hO))
  go_loopw [30] (fun s wr => ∃ (n : Nat) (T : List Tr), s = .int .i64 (n : Int) ∧ Aside0 (n ≤ l.length) ∧ Aside0 (OwnT w1.heap.size wr cc l.length 4611686018427387904 T) ∧ Aside0 (Kept (l.take n) T) ∧ Aside0 (Below w.heap.size w wr) ∧ Aside0 (w1.heap.size ≤ wr.heap.size)) (fun s _ => l.length - (intOf s).toNat)
  case atStart => exact ⟨0, [], rfl, ⟨Nat.zero_le _⟩, HO2, ⟨⟨Nat.le_refl _, fun t ht => by simp at ht, by simp [totT], fun k => rfl⟩⟩, HB2, HW12⟩
  case round =>
    clear HB2 HO2
    obtain ⟨n, T, rfl, HNl, HO, HT, HB, HS⟩ := hrel
    by_cases hlt : n < l.length
    · obtain ⟨x, rfl, k0, hcell⟩ := (HR.out.below HB.out).cell0 (by decide) hlt
      have k1 := hcell 1 (by decide) (by decide)
      have k2 := hcell 2 (by decide) (by decide)
      have k3 := hcell 3 (by decide) (by decide)
      clear hcell
      have hnx := take_next hlt []
      have hwf := fun j (hj : j < 4) => getD_wf HW.out hlt hj
      have HP := fun h0 h1 => Kept.put (z := l.getD n []) HT.out h0 h1
      rw [← hnx] at HP
      have W1 := Aside0.mk (hwf 1 (by decide))
      clear hwf hnx
      generalize (l.getD n []).getD 0 0 = z0 at *
      generalize (l.getD n []).getD 1 0 = z1 at *
      generalize (l.getD n []).getD 2 0 = z2 at *
      generalize (l.getD n []).getD 3 0 = z3 at *
      by_cases hs : z3 < 0 ∨ 2147483648 < z3
      · have hd : decide (z3 < 0) = true ∨ (decide (z3 < 0) = false ∧ decide (2147483648 < z3) = true) := by
          simp only [decide_eq_true_eq, decide_eq_false_iff_not]
          omega
        clear hs HP
        rcases hd with h1 | ⟨h1, h2⟩
        all_goals
          go_wp2
          go_ret
          exact ⟨rfl, HB.out.alloc HB.out.size _⟩
      · have d1 : decide (z3 < 0) = false := by simp; omega
        have d2 : decide (2147483648 < z3) = false := by simp; omega
        have HK2 := Aside0.mk (HP (by omega) (by omega))
        have hpt : putOk l.length 4611686018427387904 z3 = true ∧ putT l.length 4611686018427387904 z1 z2 z3 T = ⟨z1, z2, z3⟩ :: rmT z1 T := by
          have h1 := HT.out.len
          have h2 := HT.out.tot
          rw [List.length_take, Nat.min_eq_left (by omega)] at h1 h2
          exact putT_room (by omega) (by omega) (by omega) HT.out.pos (by omega) (by omega)
        have hpk := hpt.1
        have HPT := Aside0.mk hpt.2
        have HLT : Aside0 (T.length < maxLen) := ⟨by have h1 := HT.out.len; rw [List.length_take] at h1; simp only [maxLen]; omega⟩
        have HPK := Aside0.mk hpk
        clear hs HP hpt hpk
        go_wp2_with (go_at_call 11; (with_reducible refine (put_T (HO.out.below (below_alloc (Below.refl _ _) _)) (by simp; have := HS.out; omega) W1.out z2 z3 (by omega) (by omega) (by decide) HLT.out).mono ?_); rintro e w3 ⟨rfl, hO, hB, hK⟩; rw [HPT.out] at hO; rw [HPK.out]; have HO3 := Aside0.mk hO; have HB3 := Aside0.mk hB; clear hO hB hK)
        go_roundw
        case rel =>
          have hs := HB3.out.size
          simp at hs
          exact ⟨n + 1, _, by go_num, ⟨by omega⟩, HO3, HK2, ⟨HB.out.trans ((Below.alloc (Below.refl _ _) HB.out.size _).trans (HB3.out.mono HBB.out))⟩, ⟨by have := HS.out; omega⟩⟩
        case measure => simp [intOf]; omega
    · obtain rfl : n = l.length := by have := HNl.out; omega
      have hT := HT.out
      rw [List.take_length] at hT
      have HT := Aside0.mk hT
      clear hT hlt
      go_wp2
      obtain ⟨wq, rfl⟩ : ∃ wq : World, wq = wr := ⟨_, rfl⟩
      go_loopw [54] (fun s wr => ∃ (n : Nat) (T : List Tr), s = .int .i64 (n : Int) ∧ Aside0 (n ≤ l.length) ∧ Aside0 (OwnT w1.heap.size wr cc l.length 4611686018427387904 T) ∧ Aside0 (∀ k, look k T = lastQ k l) ∧ Aside0 (Below w.heap.size w wr) ∧ Aside0 (w1.heap.size ≤ wr.heap.size)) (fun s _ => l.length - (intOf s).toNat)
      case atStart => exact ⟨0, T, rfl, ⟨Nat.zero_le _⟩, HO, ⟨HT.out.at_⟩, HB, HS⟩
      case round =>
        clear HT HO HB HS
        obtain ⟨n, T', rfl, HNl2, HO, HT, HB, HS⟩ := hrel
        by_cases hlt : n < l.length
        · obtain ⟨x, rfl, k0, hcell⟩ := (HR.out.below HB.out).cell0 (by decide) hlt
          have k1 := hcell 1 (by decide) (by decide)
          have k2 := hcell 2 (by decide) (by decide)
          have k3 := hcell 3 (by decide) (by decide)
          clear hcell
          have hwf := fun j (hj : j < 4) => getD_wf HW.out hlt hj
          have W1 := Aside0.mk (hwf 1 (by decide))
          clear hwf
          generalize hz0 : (l.getD n []).getD 0 0 = z0 at *
          generalize hz1 : (l.getD n []).getD 1 0 = z1 at *
          generalize hz2 : (l.getD n []).getD 2 0 = z2 at *
          generalize hz3 : (l.getD n []).getD 3 0 = z3 at *
          have HZ1 := Aside0.mk hz1
          have HZ2 := Aside0.mk hz2
          clear hz0 hz1 hz2 hz3
          go_wp2
          obtain ⟨wo, rfl⟩ : ∃ wo : World, wo = wr := ⟨_, rfl⟩
          obtain ⟨g, hg⟩ : ∃ g, g = wo.heap.size := ⟨_, rfl⟩
          have hbk := blk_new wo (.cells #[.int .i64 z0, .int .i64 z1, .int .i64 z2, .int .i64 z3] 30)
          have hO1 := HO.out.below (below_alloc (Below.refl wo.heap.size wo) (.cells #[.int .i64 z0, .int .i64 z1, .int .i64 z2, .int .i64 z3] 30))
          have hB1 := HB.out.alloc HB.out.size (.cells #[.int .i64 z0, .int .i64 z1, .int .i64 z2, .int .i64 z3] 30)
          have hS1 : w1.heap.size ≤ (wo.alloc (.cells #[.int .i64 z0, .int .i64 z1, .int .i64 z2, .int .i64 z3] 30)).heap.size := by simp; have := HS.out; omega
          rw [← hg] at hbk ⊢
          have HRD : Aside0 (RowQ 4 w (some (x.add (n * 4))) (l.drop n)) := ⟨HR.out.drop n⟩
          have HDL : Aside0 ((l.drop n).length = l.length - n) := ⟨List.length_drop⟩
          have hdn : l.length - n ≤ 1048576 := by omega
          clear k0 k1 k2 k3 hg HB HO HS
          generalize World.alloc wo _ = w3 at *
          have HK3 := Aside0.mk hbk
          have HO3 := Aside0.mk hO1
          have HBW := Aside0.mk hB1
          have HSW := Aside0.mk hS1
          clear hbk hO1 hB1 hS1
          generalize hx : x.add (n * 4) = xn at *
          obtain ⟨K, hK⟩ : ∃ K, K = l.length - n := ⟨_, rfl⟩
          rw [← hK] at HDL hdn ⊢
          have HKK : Aside0 (K = l.length - n) := ⟨hK⟩
          clear hx hK
          go_loopw [9, 65] (fun s9 s65 wr => ∃ (m : Nat) (p : Int), s9 = .int .i64 p ∧ s65 = .int .i64 (m : Int) ∧ Aside0 (m ≤ K) ∧ Aside0 ((m = 0 ∧ p = z2) ∨ lastQ z1 (l.take (n + m)) = some p) ∧ Aside0 (wr.heap[g]? = some (.cells #[.int .i64 z0, .int .i64 z1, .int .i64 z2, .int .i64 z3] 30 (0, 0))) ∧ Aside0 (OwnT w1.heap.size wr cc l.length 4611686018427387904 T') ∧ Aside0 (Below w.heap.size w wr) ∧ Aside0 (w1.heap.size ≤ wr.heap.size)) (fun _ s65 _ => K - (intOf s65).toNat)
          case atStart => exact ⟨0, z2, rfl, rfl, ⟨Nat.zero_le _⟩, ⟨.inl ⟨rfl, rfl⟩⟩, HK3, HO3, HBW, HSW⟩
          case round =>
            clear HK3 HO3 HBW HSW
            obtain ⟨m, p, rfl, rfl, HM, HP, HKi, HOi, HBi, HSi⟩ := hrel
            have g1 : wr.cell? ⟨g, 1, none⟩ = some (.int .i64 z1) := (blk_cell HKi.out 1).trans rfl
            have gl := blk_lt HKi.out
            by_cases hmn : m < K
            · obtain ⟨x', hx, i0, hcell⟩ := (HRD.out.below HBi.out).cell0 (by decide) (show m < (l.drop n).length by rw [HDL.out]; exact hmn)
              injection hx with hx
              subst hx
              have i1 := hcell 1 (by decide) (by decide)
              have i2 := hcell 2 (by decide) (by decide)
              have i3 := hcell 3 (by decide) (by decide)
              clear hcell
              have hnm : n + m < l.length := by have := HKK.out; omega
              have hge : (l.drop n).getD m [] = l.getD (n + m) [] := by
                rw [List.getD_eq_getElem?_getD, List.getElem?_drop, ← List.getD_eq_getElem?_getD]
              rw [hge] at i0 i1 i2 i3
              have HSN := Aside0.mk (lastQ_snoc z1 (l.take (n + m)) (l.getD (n + m) []))
              rw [← take_next hnm []] at HSN
              have HZM : Aside0 (m = 0 → (l.getD (n + m) []).getD 1 0 = z1 ∧ (l.getD (n + m) []).getD 2 0 = z2) := ⟨by rintro rfl; rw [Nat.add_zero]; exact ⟨HZ1.out, HZ2.out⟩⟩
              generalize (l.getD (n + m) []).getD 0 0 = y0 at *
              generalize (l.getD (n + m) []).getD 1 0 = y1 at *
              generalize (l.getD (n + m) []).getD 2 0 = y2 at *
              generalize (l.getD (n + m) []).getD 3 0 = y3 at *
              have HNew : ∀ (wn : World), wn = wr.alloc (.cells #[.int .i64 y0, .int .i64 y1, .int .i64 y2, .int .i64 y3] 30) → Aside0 (wn.heap[g]? = some (.cells #[.int .i64 z0, .int .i64 z1, .int .i64 z2, .int .i64 z3] 30 (0, 0))) ∧ Aside0 (OwnT w1.heap.size wn cc l.length 4611686018427387904 T') ∧ Aside0 (Below w.heap.size w wn) ∧ Aside0 (w1.heap.size ≤ wn.heap.size) := by
                rintro _ rfl
                exact ⟨⟨blk_alloc HKi.out _⟩, ⟨HOi.out.below (below_alloc (Below.refl _ _) _)⟩, ⟨HBi.out.alloc HBi.out.size _⟩, ⟨by simp; have := HSi.out; omega⟩⟩
              have HNE := Aside0.mk (HNew _ rfl)
              clear HNew hge
              have HNM := Aside0.mk hnm
              clear hnm
              by_cases hy1 : y1 = z1
              · have e1 : (y1 == z1) = true := by simp [hy1]
                have HSN2 : Aside0 ((m + 1 = 0 ∧ y2 = z2) ∨ lastQ z1 (l.take (n + (m + 1))) = some y2) := ⟨.inr (by rw [← Nat.add_assoc, HSN.out, if_pos hy1])⟩
                clear hy1 HSN
                go_wp2
                go_roundw
                case rel => exact ⟨m + 1, y2, rfl, by go_num, ⟨by omega⟩, HSN2, HNE.out⟩
                case measure => simp [intOf]; omega
              · have e1 : (y1 == z1) = false := by simp [hy1]
                have HSN2 : Aside0 ((m + 1 = 0 ∧ p = z2) ∨ lastQ z1 (l.take (n + (m + 1))) = some p) := ⟨.inr (by
                  rw [← Nat.add_assoc, HSN.out, if_neg hy1]
                  exact HP.out.resolve_left (fun hh => hy1 (HZM.out hh.1).1))⟩
                clear hy1 HSN
                go_wp2
                go_roundw
                case rel => exact ⟨m + 1, p, rfl, by go_num, ⟨by omega⟩, HSN2, HNE.out⟩
                case measure => simp [intOf]; omega
            · have hmK : m = K := by have := HM.out; omega
              have hlast : lastQ z1 l = some p := by
                have h1 := HKK.out
                have h2 := HP.out.resolve_left (fun hh => by omega)
                rw [show n + m = l.length by omega, List.take_length] at h2
                exact h2
              rw [← HT.out z1] at hlast
              obtain ⟨v1, v2⟩ := look_val hlast
              have HV1 := Aside0.mk v1
              have HV2 := Aside0.mk v2
              clear hmK hlast v1 v2
              go_wp2_with (go_at_call 12; (with_reducible refine (get_T HOi.out HSi.out W1.out).mono ?_); rintro e w4 ⟨rfl, hO, hB, hK⟩; rw [HV1.out, HV2.out]; have HO4 := Aside0.mk hO; have HB4 := Aside0.mk hB; clear hO hB hK)
              go_roundw
              case rel => exact ⟨n + 1, _, by go_num, ⟨by omega⟩, HO4, ⟨fun k => by rw [look_used]; exact HT.out k⟩, ⟨HBi.out.trans (HB4.out.mono HBB.out)⟩, ⟨by have := HB4.out.size; have := HSi.out; omega⟩⟩
              case measure => simp [intOf]; omega
        · go_wp2
          go_ret
          exact ⟨rfl, HB.out⟩
end Go.Proofs.Ytebmfbfmdbimdaa.F.Li
