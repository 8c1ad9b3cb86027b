/- Package cmap, whatever the bytes: the choice of a subtable (CmapBounds). -/
import Derived.Test.YtebmfbfmdbimdaaZC12
import Derived.Deep.RegionWith
import Derived.Deep.CutBlock
import Derived.Deep.DeepCutAuto
namespace Go.Proofs.Ytebmfbfmdbimdaa.F
open Go.RowKit Go.Proofs.YtebmfbfmdbimdaaW.PrintWords Go.Proofs.YtebmfbfmdbimdaaW.PrintLast Go.Proofs.YtebmfbfmdbimdaaW.PrintMore Go.Proofs.Ytebmfbfmdbimdaa.rowQ
set_option linter.unusedVariables false
set_option linter.unusedSimpArgs false
theorem u16_end (p : Nat) (A : Option Addr) (c : Nat) (l : List Int) (at_ : Int) (hb : ∀ z ∈ l, 0 ≤ z ∧ z ≤ 255) : ∃ E, (E = .returned (.int .i64 (num l at_ 2)) ∨ E = PK 51) ∧ ∀ W, View W p A c l → Calls Try.prog 61 #[.agg #[.pointer (some ⟨p, 0, none⟩)], .int .i64 at_] W fun e w' => e = E ∧ Below W.heap.size W w' := by
  by_cases hp : partOk l at_ 2
  · exact ⟨_, .inl rfl, fun W hv => cu16_ok p A c l at_ W hv hb hp⟩
  · exact ⟨_, .inr rfl, fun W hv => cu16_no p A c l at_ W hv hb hp⟩
theorem u32_end (p : Nat) (A : Option Addr) (c : Nat) (l : List Int) (at_ : Int) (hb : ∀ z ∈ l, 0 ≤ z ∧ z ≤ 255) : ∃ E, (E = .returned (.int .i64 (num l at_ 4)) ∨ E = PK 51) ∧ ∀ W, View W p A c l → Calls Try.prog 62 #[.agg #[.pointer (some ⟨p, 0, none⟩)], .int .i64 at_] W fun e w' => e = E ∧ Below W.heap.size W w' := by
  by_cases hp : partOk l at_ 4
  · exact ⟨_, .inl rfl, fun W hv => cu32_ok p A c l at_ W hv hb hp⟩
  · exact ⟨_, .inr rfl, fun W hv => cu32_no p A c l at_ W hv hb hp⟩
/-- A call that returns v or throws, in a walk: the thrown way is closed at once, one way goes on. -/
theorem Calls.either {P : Program} {f : FuncId} {args : Array Value} {w : World} {R : Ending → World → Prop} {v : Value} {c : Int} (h : Calls P f args w fun e w' => (e = .returned v ∨ e = PK c) ∧ Below w.heap.size w w')
    (hpan : ∀ w', Below w.heap.size w w' → R (PK c) w') (hret : ∀ w', Below w.heap.size w w' → R (.returned v) w') : Calls P f args w R :=
  h.mono fun e w' ⟨he, hb⟩ => by
    rcases he with rfl | rfl
    · exact hret _ hb
    · exact hpan _ hb
section
variable {w0 w' w'' : World} {g p : Nat} {A : Option Addr} {c : Nat} {l : List Int}
theorem rd_view (h : Aside0 (Rd w0 g p A c l w')) : View w' p A c l := h.out.view
theorem rd_bel (h : Aside0 (Rd w0 g p A c l w')) : Below w0.heap.size w0 w' := h.out.bel
theorem rd_below (h : Aside0 (Rd w0 g p A c l w')) (hb : Below w'.heap.size w' w'') : Aside0 (Rd w0 g p A c l w'') := ⟨h.out.below hb⟩
end
theorem idx_ge (a b : Int) (L : List (List Int)) : -1 ≤ idxP a b L := by
  unfold idxP
  split <;> omega
set_option maxRecDepth 100000 in
set_option maxHeartbeats 4000000 in
theorem choose_any (p : Nat) (A : Option Addr) (c : Nat) (l : List Int) (w : World) (h : View w p A c l) (hb : ∀ z ∈ l, 0 ≤ z ∧ z ≤ 255) :
    Calls Try.prog 55 #[.agg #[.pointer (some ⟨p, 0, none⟩)]] w fun e w' => ((∃ a v : Int, e = .returned (.tuple #[.int .i64 a, .int .i64 v]) ∧ 0 ≤ a ∧ a < 4294967296 ∧ v < 4294967296) ∨ Thr e) ∧ Below w.heap.size w w' := by
  have C0 := Aside0.mk (fun W (hv : View W p A c l) => cu16_any p A c l 0 W hv hb)
  have C2 := Aside0.mk (fun W (hv : View W p A c l) => cu16_any p A c l 2 W hv hb)
  have HN := Aside0.mk (num_bound (l := l) (at_ := 2) (n := 2) hb (by decide))
  have HBy := Aside0.mk hb
  have HK := Aside0.mk (fun (P E : Int) (W : World) => rank_calls P E W)
  have HR := Aside0.mk (Rd.new h)
  have h := Aside0.mk h
  generalize num l 0 2 = x0 at *
  generalize num l 2 2 = n at *
  clear hb
  go_enter Try.func55, Try.ntmps55
  go_wp2_with (first | (go_at_call 61; ((with_reducible refine (C0.out _ HR.out.view).mono ?_); rintro e w2 ⟨rfl | rfl, hb⟩ <;> (have HR2 := Aside0.mk (HR.out.below hb); have hc2 := HR2.out.cell; clear hb))) | (go_at_call 54; (with_reducible refine (must_any _ _ (by decide) _).mono ?_); rintro e w3 ⟨⟨rfl, hm⟩ | ⟨rfl, hm⟩, rfl⟩) | (go_at_call 61; ((with_reducible refine (C2.out _ HR2.out.view).mono ?_); rintro e w4 ⟨rfl | rfl, hb⟩ <;> (have HR4 := Aside0.mk (HR2.out.below hb); have hc4 := HR4.out.cell; clear hb))))
  · have hm2 : n ≤ 64 := of_decide_eq_true (by assumption)
    obtain ⟨N, hN⟩ := Int.eq_ofNat_of_zero_le HN.out.1
    subst hN
    have hN64 : N ≤ 64 := by omega
    obtain ⟨g, hg⟩ : ∃ g, g = w.heap.size := ⟨_, rfl⟩
    rw [← hg] at HR4 ⊢
    clear HR HR2 hc2 hc4 C0 C2 hg h hm2 HN
    go_loopw [23, 5, 6, 7] (fun s b a v wr => ∃ (i : Nat) (bb aa vv : Int), s = .int .i64 (i : Int) ∧ b = .int .i64 bb ∧ a = .int .i64 aa ∧ v = .int .i64 vv ∧ Aside0 (i ≤ N ∧ -1 ≤ bb ∧ (0 ≤ bb → 0 ≤ aa) ∧ aa < 4294967296 ∧ vv < 4294967296) ∧ Aside0 (Rd w g p A c l wr)) (fun s _ _ _ _ => N - (intOf s).toNat)
    case atStart => exact ⟨0, -1, -1, -1, rfl, rfl, rfl, rfl, ⟨by omega⟩, HR4⟩
    case round =>
      clear HR4
      obtain ⟨i, bb, aa, vv, rfl, rfl, rfl, rfl, HI, HR⟩ := hrel
      by_cases hlt : i < N
      · have hc := HR.out.cell
        have hi64 : i < 64 := by omega
        have D4 := Aside0.mk (fun W (hv : View W p A c l) => cu16_any p A c l (4 + 8 * i) W hv HBy.out)
        have D6 := Aside0.mk (fun W (hv : View W p A c l) => cu16_any p A c l (6 + 8 * i) W hv HBy.out)
        have D8 := Aside0.mk (fun W (hv : View W p A c l) => cu32_any p A c l (8 + 8 * i) W hv HBy.out)
        have N4 := Aside0.mk (num_bound (l := l) (at_ := 4 + 8 * i) (n := 2) HBy.out (by decide))
        have N8 := Aside0.mk (num_bound (l := l) (at_ := 8 + 8 * i) (n := 4) HBy.out (by decide))
        have W4 : Aside0 (IntKind.i64.wrap (4 + IntKind.i64.wrap (8 * (i : Int))) = 4 + 8 * i) := ⟨by simp only [IntKind.wrap_i64]; omega⟩
        have W6 : Aside0 (IntKind.i64.wrap (6 + IntKind.i64.wrap (8 * (i : Int))) = 6 + 8 * i) := ⟨by simp only [IntKind.wrap_i64]; omega⟩
        have W8 : Aside0 (IntKind.i64.wrap (8 + IntKind.i64.wrap (8 * (i : Int))) = 8 + 8 * i) := ⟨by simp only [IntKind.wrap_i64]; omega⟩
        generalize num l (4 + 8 * (i : Int)) 2 = x4 at *
        generalize num l (6 + 8 * (i : Int)) 2 = x6 at *
        generalize num l (8 + 8 * (i : Int)) 4 = x8 at *
        have HRd := Aside0.mk (HR.out.below (below_drew (Below.refl _ _)))
        go_upto_region 8 with fail
        go_cut [9, 10, 11] from 26 to 40 (fun s9 s10 s11 wx => s9 = .int .i64 x4 ∧ s10 = .int .i64 x6 ∧ s11 = .int .i64 x8 ∧ Aside0 (Rd w g p A c l wx))
        case first =>
          go_region_with (first | (go_at_call 61; (try rw [W4.out]); (with_reducible refine Calls.either (D4.out _ (rd_view (w0 := w) (g := g) (p := p) (A := A) (c := c) (l := l) (by assumption))) ?_ ?_); (intro w5 hb; exact ⟨rfl, .inr ⟨_, by decide, rfl⟩, rd_bel (w0 := w) (g := g) (p := p) (A := A) (c := c) (l := l) (rd_below (w0 := w) (g := g) (p := p) (A := A) (c := c) (l := l) (by assumption) hb)⟩); intro w5 hb; have HR5 := rd_below (w0 := w) (g := g) (p := p) (A := A) (c := c) (l := l) (by assumption) hb; have hc5 := HR5.out.cell; clear hb) | (go_at_call 61; (try rw [W6.out]); (with_reducible refine Calls.either (D6.out _ (rd_view (w0 := w) (g := g) (p := p) (A := A) (c := c) (l := l) (by assumption))) ?_ ?_); (intro w5 hb; exact ⟨rfl, .inr ⟨_, by decide, rfl⟩, rd_bel (w0 := w) (g := g) (p := p) (A := A) (c := c) (l := l) (rd_below (w0 := w) (g := g) (p := p) (A := A) (c := c) (l := l) (by assumption) hb)⟩); intro w5 hb; have HR5 := rd_below (w0 := w) (g := g) (p := p) (A := A) (c := c) (l := l) (by assumption) hb; have hc5 := HR5.out.cell; clear hb) | (go_at_call 62; (try rw [W8.out]); (with_reducible refine Calls.either (D8.out _ (rd_view (w0 := w) (g := g) (p := p) (A := A) (c := c) (l := l) (by assumption))) ?_ ?_); (intro w5 hb; exact ⟨rfl, .inr ⟨_, by decide, rfl⟩, rd_bel (w0 := w) (g := g) (p := p) (A := A) (c := c) (l := l) (rd_below (w0 := w) (g := g) (p := p) (A := A) (c := c) (l := l) (by assumption) hb)⟩); intro w5 hb; have HR5 := rd_below (w0 := w) (g := g) (p := p) (A := A) (c := c) (l := l) (by assumption) hb; have hc5 := HR5.out.cell; clear hb))
          all_goals
            go_wp2_with fail
            go_meet
            exact ⟨rfl, rfl, rfl, by assumption⟩
        case rest =>
          obtain ⟨rfl, rfl, rfl, HR8⟩ := hcut
          have HKr := Aside0.mk (HK.out x4 x6)
          have hkk := idx_ge x4 x6 rankL
          generalize idxP x4 x6 rankL = kk at *
          have HKK := Aside0.mk hkk
          have h1 : decide (0 ≤ kk) = false ∨ (decide (0 ≤ kk) = true ∧ decide (bb < 0) = true) ∨ (decide (0 ≤ kk) = true ∧ decide (bb < 0) = false ∧ decide (kk < bb) = true) ∨ (decide (0 ≤ kk) = true ∧ decide (bb < 0) = false ∧ decide (kk < bb) = false) := by
            simp only [decide_eq_true_eq, decide_eq_false_iff_not]
            omega
          have h2 : (x4 == 0) = false ∨ ((x4 == 0) = true ∧ (x6 == 5) = false) ∨ ((x4 == 0) = true ∧ (x6 == 5) = true ∧ decide (vv < 0) = false) ∨ ((x4 == 0) = true ∧ (x6 == 5) = true ∧ decide (vv < 0) = true) := by
            simp only [decide_eq_true_eq, decide_eq_false_iff_not, beq_iff_eq, beq_eq_false_iff_ne]
            omega
          clear hkk
          rcases h1 with h1 | ⟨h1, h1b⟩ | ⟨h1, h1b, h1c⟩ | ⟨h1, h1b, h1c⟩ <;> rcases h2 with h2 | ⟨h2, h2b⟩ | ⟨h2, h2b, h2c⟩ | ⟨h2, h2b, h2c⟩
          all_goals
            go_wp2_with (go_at_call 63; (with_reducible refine (HKr.out _).mono ?_); rintro e w6 ⟨rfl, hb⟩; have HR9 := Aside0.mk (HR8.out.below hb); clear hb)
            go_roundw
            case rel =>
              refine ⟨i + 1, _, _, _, by go_num, rfl, rfl, rfl, ⟨?_⟩, HR9⟩
              have q1 := HI.out
              have q2 := N8.out
              have q3 := HKK.out
              omega
            case measure => simp [intOf]; omega
      · obtain rfl : i = N := by have := HI.out.1; omega
        clear hlt
        go_wp2_with (go_at_call 54; (with_reducible refine (must_any _ _ (by decide) _).mono ?_); rintro e w6 ⟨⟨rfl, hm⟩ | ⟨rfl, hm⟩, rfl⟩)
        · go_ret2
          have q1 := HI.out
          have hm := of_decide_eq_true hm
          exact ⟨.inl ⟨aa, vv, rfl, q1.2.2.1 hm, q1.2.2.2.1, q1.2.2.2.2⟩, HR.out.bel⟩
        · exact ⟨rfl, .inr ⟨_, by decide, rfl⟩, HR.out.bel⟩
  all_goals
    first | exact ⟨rfl, .inr ⟨_, by decide, rfl⟩, HR4.out.bel⟩ | exact ⟨rfl, .inr ⟨_, by decide, rfl⟩, HR2.out.bel⟩
end Go.Proofs.Ytebmfbfmdbimdaa.F
