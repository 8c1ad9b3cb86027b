/- CmapGroups, walked. -/
import Derived.Test.YtebmfbfmdbimdaaCmap12
namespace Go.Proofs.Ytebmfbfmdbimdaa.F
open Go.RowKit Go.Proofs.YtebmfbfmdbimdaaW.PrintWords Go.Proofs.YtebmfbfmdbimdaaW.PrintLast Go.Proofs.YtebmfbfmdbimdaaW.PrintMore Go.Proofs.Ytebmfbfmdbimdaa.D Go.Proofs.Ytebmfbfmdbimdaa.rowQ
set_option linter.unusedVariables false
set_option linter.unusedSimpArgs false
theorem s56_at {l : List (List Int)} {i : Nat} (hi : i < l.length) : (l.map s56).getD i z56 = s56 (l.getD i []) := by
  rw [List.getD_eq_getElem?_getD, List.getElem?_map, List.getElem?_eq_getElem hi, List.getD_eq_getElem?_getD, List.getElem?_eq_getElem hi]
  rfl
/-- What the law has asked of the groups so far. -/
def Pre (L : List S56) (n : Nat) : Prop := ∀ i, i < n → prevT L i < (L.getD i z56).f0 ∧ (L.getD i z56).f0 ≤ (L.getD i z56).f1 ∧ (L.getD i z56).f1 ≤ 1114111 ∧ 0 ≤ (L.getD i z56).f2 ∧ (L.getD i z56).f2 ≤ 1048576
theorem Pre.prev {L : List S56} {n : Nat} (h : Pre L n) : ∀ i, i ≤ n → -1 ≤ prevT L i
  | 0, _ => Int.le_refl _
  | i + 1, hi => by
    have h1 := h i (by omega)
    have h2 := Pre.prev h i (by omega)
    show -1 ≤ (L.getD i z56).f1
    omega
theorem Pre.good {L : List S56} (h : Pre L L.length) (hl : L.length ≤ 4096) : Good L := by
  refine ⟨hl, fun z hz => ?_, fun i hi => ⟨(h i hi).2.1, (h i hi).2.2.1, (h i hi).1⟩⟩
  obtain ⟨i, hi, rfl⟩ := List.getElem_of_mem hz
  have e : L.getD i z56 = L[i] := by rw [List.getD_eq_getElem?_getD, List.getElem?_eq_getElem hi]; rfl
  have h1 := h i hi
  have h2 := h.prev i (by omega)
  rw [e] at h1
  unfold fits
  omega
theorem Pre.step {L : List S56} {n : Nat} (h : Pre L n) (h1 : prevT L n < (L.getD n z56).f0 ∧ (L.getD n z56).f0 ≤ (L.getD n z56).f1 ∧ (L.getD n z56).f1 ≤ 1114111 ∧ 0 ≤ (L.getD n z56).f2 ∧ (L.getD n z56).f2 ≤ 1048576) : Pre L (n + 1) := fun i hi => by
  by_cases hn : i = n
  · subst hn; exact h1
  · exact h i (by omega)
set_option maxRecDepth 100000 in
set_option maxHeartbeats 3000000 in
theorem groups.calls (A : Option Addr) (c : Nat) (l : List (List Int)) (code : Int) (b : Bool) (w : World) (hR : RowQ 3 w A l) (hl : l.length < 140737488355328) (hc : l.length ≤ c) :
    Calls Try.prog 7 #[.slice A l.length c, .int .i64 code, .bool b] w fun e w' => e = .returned (.bool true) ∧ Below w.heap.size w w' := by
  have HA := Aside0.mk (fun W => alive.calls W)
  have HR := Aside0.mk hR
  obtain ⟨L, hL⟩ : ∃ L, L = l.map s56 := ⟨_, rfl⟩
  have HL := Aside0.mk hL
  have hLl : L.length = l.length := by rw [hL, List.length_map]
  have HLl := Aside0.mk hLl
  obtain ⟨f, hf⟩ : ∃ f : Int, f = if b then 13 else 12 := ⟨_, rfl⟩
  have HF := Aside0.mk hf
  have HC := Aside0.mk hc
  have HLB := Aside0.mk hl
  clear hR hL hLl hf hc hl
  by_cases hbig : 4096 < l.length
  · have hd : decide ((4096 : Int) < (l.length : Int)) = true := decide_eq_true (by omega)
    clear hbig
    cases b
    all_goals
      go_enter Try.func7, Try.ntmps7
      go_wp2_with (go_at_call 25; (refine (HA.out _).mono ?_); rintro e w1 ⟨rfl, hb⟩; have HB := Aside0.mk hb; clear hb)
      go_ret
      exact ⟨rfl, HB.out⟩
  have hd : decide ((4096 : Int) < (l.length : Int)) = false := decide_eq_false (by omega)
  have HS : Aside0 (l.length ≤ 4096) := ⟨by omega⟩
  clear hbig
  obtain ⟨B, hB⟩ : ∃ B : Bool, B = b := ⟨b, rfl⟩
  have HBb := Aside0.mk hB
  clear hB
  have hb : b = true ∨ b = false := by cases b <;> simp
  rcases hb with rfl | rfl
  all_goals
    go_enter Try.func7, Try.ntmps7
    go_wp2_with (go_at_call 25; (refine (HA.out _).mono ?_); rintro e w1 ⟨rfl, hb⟩; have HB := Aside0.mk hb; clear hb)
    clear HA hd
    go_loopw [7, 9, 22] (fun s7 s9 s22 wr => ∃ n : Nat, s22 = .int .i64 (n : Int) ∧ Aside0 (n ≤ l.length) ∧ s7 = .int .i64 (prevT L n) ∧ s9 = .int .i64 (wantN B code L n) ∧ Aside0 (Pre L n) ∧ Aside0 (Below w.heap.size w wr)) (fun _ _ s _ => l.length - (intOf s).toNat)
    case atStart => exact ⟨0, rfl, ⟨Nat.zero_le _⟩, rfl, rfl, ⟨fun i hi => absurd hi (Nat.not_lt_zero _)⟩, HB⟩
    case round =>
      clear HB
      obtain ⟨n, rfl, HN, rfl, rfl, HP, HB⟩ := hrel
      by_cases hlt : n < l.length
      · have es : L.getD n z56 = s56 (l.getD n []) := by rw [HL.out]; exact s56_at hlt
        obtain ⟨x, rfl, k0, hcell⟩ := (HR.out.below HB.out).cell0 (by decide) hlt
        have k1 := hcell 1 (by decide) (by decide)
        have k2 := hcell 2 (by decide) (by decide)
        clear hcell
        have hst := HP.out.step
        have hpv := HP.out.prev n (Nat.le_refl _)
        have hwn : wantN B code L (n + 1) = if (l.getD n []).getD 0 0 ≤ code ∧ code ≤ (l.getD n []).getD 1 0 then (l.getD n []).getD 2 0 + (if B then 0 else code - (l.getD n []).getD 0 0) else wantN B code L n := by rw [wantN, es]; rfl
        have hpn : prevT L (n + 1) = (l.getD n []).getD 1 0 := by show (L.getD n z56).f1 = _; rw [es]; rfl
        rw [es] at hst
        change (prevT L n < (l.getD n []).getD 0 0 ∧ (l.getD n []).getD 0 0 ≤ (l.getD n []).getD 1 0 ∧ (l.getD n []).getD 1 0 ≤ 1114111 ∧ 0 ≤ (l.getD n []).getD 2 0 ∧ (l.getD n []).getD 2 0 ≤ 1048576) → Pre L (n + 1) at hst
        clear es
        generalize (l.getD n []).getD 0 0 = z0 at *
        generalize (l.getD n []).getD 1 0 = z1 at *
        generalize (l.getD n []).getD 2 0 = z2 at *
        have HST := Aside0.mk hst
        have HWN := Aside0.mk hwn
        have HPN := Aside0.mk hpn
        have HPV := Aside0.mk hpv
        have HLT := Aside0.mk hlt
        have hl4 : l.length ≤ 4096 := HS.out
        clear hst hwn hpn hpv HP
        generalize prevT L n = pv at *
        generalize wantN B code L n = wv at *
        by_cases hbad : z0 ≤ pv ∨ z1 < z0 ∨ 1114111 < z1 ∨ z2 < 0 ∨ 1048576 < z2
        · have hd : decide (z0 ≤ pv) = true ∨ (decide (z0 ≤ pv) = false ∧ decide (z1 < z0) = true) ∨ (decide (z0 ≤ pv) = false ∧ decide (z1 < z0) = false ∧ decide (1114111 < z1) = true) ∨ (decide (z0 ≤ pv) = false ∧ decide (z1 < z0) = false ∧ decide (1114111 < z1) = false ∧ decide (z2 < 0) = true) ∨ (decide (z0 ≤ pv) = false ∧ decide (z1 < z0) = false ∧ decide (1114111 < z1) = false ∧ decide (z2 < 0) = false ∧ decide (1048576 < z2) = true) := by
            simp only [decide_eq_true_eq, decide_eq_false_iff_not]
            omega
          clear hbad HST HWN HPN HPV
          rcases hd with h1 | ⟨h1, h2⟩ | ⟨h1, h2, h3⟩ | ⟨h1, h2, h3, h4⟩ | ⟨h1, h2, h3, h4, h5⟩
          all_goals
            go_wp2
            go_ret
            exact ⟨rfl, HB.out.alloc HB.out.size _⟩
        · have d1 : decide (z0 ≤ pv) = false := decide_eq_false (by omega)
          have d2 : decide (z1 < z0) = false := decide_eq_false (by omega)
          have d3 : decide (1114111 < z1) = false := decide_eq_false (by omega)
          have d4 : decide (z2 < 0) = false := decide_eq_false (by omega)
          have d5 : decide (1048576 < z2) = false := decide_eq_false (by omega)
          have HPR := Aside0.mk (HST.out (by omega))
          have HZ : Aside0 (0 ≤ z0 ∧ z1 ≤ 1114111 ∧ 0 ≤ z2 ∧ z2 ≤ 1048576) := ⟨by have := HPV.out; omega⟩
          clear hbad HST HPV
          by_cases h1 : z0 ≤ code
          · by_cases h2 : code ≤ z1
            · have d6 : decide (z0 ≤ code) = true := decide_eq_true h1
              have d7 : decide (code ≤ z1) = true := decide_eq_true h2
              have x1 : wrap64 (code - z0) = code - z0 := w64n (by omega) (by have := HZ.out; omega)
              have x2 : wrap64 (z2 + (code - z0)) = z2 + (code - z0) := w64n (by have := HZ.out; omega) (by have := HZ.out; omega)
              have hwx : wantN B code L (n + 1) = if B = true then z2 else z2 + (code - z0) := by
                rw [HWN.out, if_pos ⟨h1, h2⟩]
                cases B <;> simp
              have HWX := Aside0.mk hwx
              clear hwx
              clear h1 h2 HWN HZ
              go_wp2
              go_roundw
              case rel => exact ⟨n + 1, by go_num, ⟨HLT.out⟩, by rw [HPN.out], by rw [HWX.out, HBb.out]; first | rfl | (rw [x2]; rfl), HPR, ⟨HB.out.alloc HB.out.size _⟩⟩
              case measure => have := HLT.out; simp [intOf]; omega
            · have d6 : decide (z0 ≤ code) = true := decide_eq_true h1
              have d7 : decide (code ≤ z1) = false := decide_eq_false h2
              have HWX : Aside0 (wantN B code L (n + 1) = wv) := ⟨by rw [HWN.out, if_neg (fun h => h2 h.2)]⟩
              clear h1 h2 HWN HZ
              go_wp2
              go_roundw
              case rel => exact ⟨n + 1, by go_num, ⟨HLT.out⟩, by rw [HPN.out], by rw [HWX.out], HPR, ⟨HB.out.alloc HB.out.size _⟩⟩
              case measure => have := HLT.out; simp [intOf]; omega
          · have d6 : decide (z0 ≤ code) = false := decide_eq_false h1
            have HWX : Aside0 (wantN B code L (n + 1) = wv) := ⟨by rw [HWN.out, if_neg (fun h => h1 h.1)]⟩
            clear h1 HWN HZ
            go_wp2
            go_roundw
            case rel => exact ⟨n + 1, by go_num, ⟨HLT.out⟩, by rw [HPN.out], by rw [HWX.out], HPR, ⟨HB.out.alloc HB.out.size _⟩⟩
            case measure => have := HLT.out; simp [intOf]; omega
      · obtain rfl : n = l.length := by have := HN.out; omega
        have hg : Good L := by
          have h := HP.out
          rw [← HLl.out] at h
          exact h.good (by rw [HLl.out]; exact HS.out)
        have hY := glyph_want (f := f) (same := B) (code := code) hg (by rw [HBb.out]; exact HF.out)
        rw [HLl.out] at hY
        have hC56 := c56_of (HR.out.below HB.out) (by have := HLB.out; omega)
        rw [← HL.out] at hC56
        have hff : f = 12 ∨ f = 13 := by have := HF.out; simp at this; omega
        have HFm := Aside0.mk (fun (W : World) (hC : Kd.C k56 W A l.length L) => by
          have h := serifref05_Form12.calls _ f A c L (subB f L) W (by rw [HLl.out]; exact hC) (by rw [HLl.out]; exact HC.out) (form_f f L hg.fit hg.few (by omega) 0)
          rwa [HLl.out] at h)
        have HT := Aside0.mk (fun A2 c2 W h2 hc => serifref05_Table.calls 8 0 4 A2 c2 (subB f L) (tabB 0 4 (subB f L)) W h2 hc (table_f 0 4 _ (by decide) (by decide) (by rw [sub_len]; have := hg.few; omega) 0))
        have HRd := Aside0.mk (fun A0 c0 W hr => tab_read (P := 0) (E := 4) (f := f) (k := 2) (G := 4096) hg (by decide) (by decide) hff (by decide) (by decide) (by decide) (by decide) A0 c0 W hr)
        have HG := Aside0.mk (fun (code : Int) (A : Option Addr) (c m : Nat) (W : World) hr hm => tab_glyph (f := f) (G := 4096) (code := code) hg hff (A := A) (c := c) (m := m) (w := W) hr hm)
        have HC6 := Aside0.mk hC56
        have hnil : ∀ (p : Nat) (W : World), (binOp BinOp.neq 57 (.pointer (some ⟨p, 0, none⟩)) (.pointer none)).run Try.prog W = .ok (.bool true) W := fun _ _ => by kernel_rfl
        clear hC56 hg hff HP HN
        have hfv := HF.out
        simp at hfv
        subst hfv
        generalize tabB 0 4 (subB _ L) = tb at *
        generalize subB _ L = sb at *
        generalize lg _ L = LL at *
        generalize wantN B code L l.length = wv at *
        by_cases hw : 4096 ≤ wv
        · have dw : decide (4096 ≤ wv) = true := decide_eq_true hw
          rw [if_pos hw] at hY
          have HY := Aside0.mk hY
          clear hY hw hlt
          go_wp2_with (first | (go_at_call 28; (with_reducible refine (HFm.out _ HC6.out).mono ?_); rintro e w1 ⟨v1, rfl, ho, hb⟩; obtain ⟨A1, c1, rfl⟩ := Kd.R_slice ho; have HO1 := Aside0.mk ho; have HB1 := Aside0.mk (below_step HB.out hb); clear ho hb) | (go_at_call 27; (with_reducible refine (HT.out A1 c1 _ (Kd.R_reads' HO1.out).2.2 (Kd.R_reads' HO1.out).2.1).mono ?_); rintro e w2 ⟨v2, rfl, ho, hb⟩; obtain ⟨A2, c2, rfl⟩ := Kd.R_slice ho; have HO2 := Aside0.mk ho; have HB2 := Aside0.mk (below_step HB1.out hb); clear ho hb) | (go_at_call 26; (with_reducible refine (HRd.out A2 c2 _ (Kd.R_reads' HO2.out).2.2).mono ?_); rintro e w3 ⟨m, A4, c4, rfl, hr, hm, hb⟩; have HR3 := Aside0.mk hr; have HM3 := Aside0.mk hm; have HB3 := Aside0.mk (below_step HB2.out hb); clear hr hm hb) | (go_at_call 29; ((with_reducible refine (HG.out code A4 c4 m _ HR3.out HM3.out).mono ?_); rw [HY.out]; rintro e w5 ⟨rfl, hb⟩; have HB5 := Aside0.mk (below_step HB3.out hb); clear hb)))
          go_ret
          exact ⟨rfl, HB5.out⟩
        · have dw : decide (4096 ≤ wv) = false := decide_eq_false hw
          rw [if_neg hw] at hY
          have HY := Aside0.mk hY
          clear hY hw hlt
          go_wp2_with (first | (go_at_call 28; (with_reducible refine (HFm.out _ HC6.out).mono ?_); rintro e w1 ⟨v1, rfl, ho, hb⟩; obtain ⟨A1, c1, rfl⟩ := Kd.R_slice ho; have HO1 := Aside0.mk ho; have HB1 := Aside0.mk (below_step HB.out hb); clear ho hb) | (go_at_call 27; (with_reducible refine (HT.out A1 c1 _ (Kd.R_reads' HO1.out).2.2 (Kd.R_reads' HO1.out).2.1).mono ?_); rintro e w2 ⟨v2, rfl, ho, hb⟩; obtain ⟨A2, c2, rfl⟩ := Kd.R_slice ho; have HO2 := Aside0.mk ho; have HB2 := Aside0.mk (below_step HB1.out hb); clear ho hb) | (go_at_call 26; (with_reducible refine (HRd.out A2 c2 _ (Kd.R_reads' HO2.out).2.2).mono ?_); rintro e w3 ⟨m, A4, c4, rfl, hr, hm, hb⟩; have HR3 := Aside0.mk hr; have HM3 := Aside0.mk hm; have HB3 := Aside0.mk (below_step HB2.out hb); clear hr hm hb) | (go_at_call 29; ((with_reducible refine (HG.out code A4 c4 m _ HR3.out HM3.out).mono ?_); rw [HY.out]; rintro e w5 ⟨rfl, hb⟩; have HB5 := Aside0.mk (below_step HB3.out hb); clear hb)))
          go_ret
          exact ⟨rfl, HB5.out⟩
end Go.Proofs.Ytebmfbfmdbimdaa.F
