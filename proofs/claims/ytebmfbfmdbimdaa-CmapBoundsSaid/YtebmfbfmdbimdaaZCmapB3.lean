/- Package cmap, whatever the bytes: a group of form 12 or 13 read by subtable's closure (CmapBounds). -/
import Derived.Test.YtebmfbfmdbimdaaZCmapB1
import Derived.Test.YtebmfbfmdbimdaaZCmapB2
import Derived.Test.YtebmfbfmdbimdaaZC34
import Derived.Deep.RegionHeld2
import Derived.Deep.CutBlock
import Derived.Deep.DeepCutAuto
namespace Go.Proofs.Ytebmfbfmdbimdaa.F
open Go.RowKit Go.Proofs.YtebmfbfmdbimdaaW.PrintWords Go.Proofs.YtebmfbfmdbimdaaW.PrintLast Go.Proofs.YtebmfbfmdbimdaaW.PrintMore Go.Proofs.Ytebmfbfmdbimdaa.rowQ
set_option linter.unusedVariables false
set_option linter.unusedSimpArgs false
set_option maxRecDepth 100000 in
set_option maxHeartbeats 4000000 in
theorem sub3_any (w : World) (g h m p : Nat) (A : Option Addr) (c : Nat) (l : List Int) (f G : Int) (i : Nat) (x : Cw w g h m p A c l f G w) (hb : ∀ z ∈ l, 0 ≤ z ∧ z ≤ 255) (hi : i < 4096) (hf : f = 12 ∨ f = 13) :
    Calls Try.prog 73 (#[.int .i64 i] ++ #[.pointer (some ⟨g, 0, none⟩), .pointer (some ⟨h, 0, none⟩)]) w fun e w' => ((∃ x0 x4 x8 x9 : Int, e = .returned (.agg #[.int .i64 x0, .int .i64 x4, .int .i64 x8, .int .i64 x9]) ∧ Gz [x0, x4, x8, x9]) ∨ Thr e) ∧ Below w.heap.size w w' := by
  have C0 := Aside0.mk (fun W (hv : View W p A c l) => cu32_any p A c l (16 + 12 * i) W hv hb)
  have C4 := Aside0.mk (fun W (hv : View W p A c l) => cu32_any p A c l (20 + 12 * i) W hv hb)
  have C8 := Aside0.mk (fun W (hv : View W p A c l) => cu32_any p A c l (24 + 12 * i) W hv hb)
  have N0 := Aside0.mk (num_bound (l := l) (at_ := 16 + 12 * i) (n := 4) hb (by decide))
  have N8 := Aside0.mk (num_bound (l := l) (at_ := 24 + 12 * i) (n := 4) hb (by decide))
  have HF := Aside0.mk hf
  have hf2 : 0 ≤ f ∧ f ≤ 65535 := by omega
  generalize num l (16 + 12 * i) 4 = x0 at *
  generalize num l (20 + 12 * i) 4 = x4 at *
  generalize num l (24 + 12 * i) 4 = x8 at *
  have HX := Aside0.mk x
  clear hb x hf
  go_enter Try.func73, Try.ntmps73
  go_upto_region 2 with fail
  have hx := HX.out
  have hz := blk_new w (.cells #[.int .i64 0, .int .i64 0, .int .i64 0, .int .i64 0] 95)
  have hbw := below_alloc (Below.refl w.heap.size w) (.cells #[.int .i64 0, .int .i64 0, .int .i64 0, .int .i64 0] 95)
  have hx1 := hx.below hbw
  obtain ⟨b0, hb0⟩ : ∃ b0, b0 = w.heap.size := ⟨_, rfl⟩
  rw [← hb0] at hz ⊢
  generalize w.alloc _ = w1 at *
  have HC : Aside0 (Cw w1 g h m p A c l f G w1) := ⟨⟨⟨hx1.rd.blk, hx1.rd.view, Below.refl _ _⟩, hx1.ptr, hx1.map⟩⟩
  have HZ := Aside0.mk hz
  have HB := Aside0.mk hbw
  have HB0 : Aside0 (w.heap.size ≤ b0) := ⟨by omega⟩
  have W4 : Aside0 (IntKind.i64.wrap (16 + 12 * (i : Int) + 4) = 20 + 12 * (i : Int)) := ⟨by rw [IntKind.wrap_i64]; omega⟩
  have W8 : Aside0 (IntKind.i64.wrap (16 + 12 * (i : Int) + 8) = 24 + 12 * (i : Int)) := ⟨by rw [IntKind.wrap_i64]; omega⟩
  have W13 : Aside0 (IntKind.i64.wrap (13 - f) = 13 - f) := ⟨by rw [IntKind.wrap_i64]; omega⟩
  clear hz hbw hx hx1 hb0 HX
  go_cut [6] from 10 to 26 (fun s6 wx => ∃ b : Nat, s6 = .pointer (some ⟨b, 0, none⟩) ∧ Aside0 (wx.heap[b]? = some (.cells #[.int .i64 x0, .int .i64 x4, .int .i64 x8, .int .i64 (13 - f)] 95 (0, 0))) ∧ Aside0 (Cw w1 g h m p A c l f G wx))
  case first =>
    go_region_held2 (fun w' => w'.cell? ⟨g, 0, none⟩ = some (.pointer (some ⟨p, 0, none⟩)) ∧ w'.cell? ⟨h, 0, none⟩ = some (.pointer (some ⟨m, 0, none⟩)) ∧ w'.cell? ⟨m, 0, none⟩ = some (.int .i64 f) ∧ Aside0 (Cw w1 g h m p A c l f G w'))
      (first | exact ckeep HC (below_drew (Below.refl _ _)) | assumption | exact ckeep2 (w0 := w1) (g := g) (h := h) (m := m) (p := p) (A := A) (c := c) (l := l) (f := f) (G := G) (by assumption) (below_alloc (Below.refl _ _) _) | exact cset HC (below_set (below_set (below_set (below_set (held_cw (w0 := w1) (g := g) (h := h) (m := m) (p := p) (A := A) (c := c) (l := l) (f := f) (G := G) (by assumption)).rd.bel HZZ.out.1) HZZ.out.1) HZZ.out.1) HZZ.out.1))
      (first | (go_at_call 62; (with_reducible refine Calls.either (C0.out _ (held_cw (w0 := w1) (g := g) (h := h) (m := m) (p := p) (A := A) (c := c) (l := l) (f := f) (G := G) (by assumption)).rd.view) ?_ ?_); (intro w5 hb; exact ⟨rfl, .inr ⟨_, by decide, rfl⟩, below_then HB.out HB.out.size ((held_cw (w0 := w1) (g := g) (h := h) (m := m) (p := p) (A := A) (c := c) (l := l) (f := f) (G := G) (by assumption)).below hb).rd.bel⟩); intro w5 hb; have hS5 := ckeep2 (w0 := w1) (g := g) (h := h) (m := m) (p := p) (A := A) (c := c) (l := l) (f := f) (G := G) (by assumption) hb; (first | (have hz := new_held3 (w0 := w1) hb; have z0 := blk_cell hz.2 0; have z1 := blk_cell hz.2 1; have z2 := blk_cell hz.2 2; have z3 := blk_cell hz.2 3; have y0 := blk_frozen hz.2 0; have y1 := blk_frozen hz.2 1; have y2 := blk_frozen hz.2 2; have y3 := blk_frozen hz.2 3; have HZZ := Aside0.mk hz; clear hz) | (have hz := new_held (w0 := w1) (g := g) (h := h) (m := m) (p := p) (A := A) (c := c) (l := l) (f := f) (G := G) (by assumption) hb; have z0 := blk_cell hz.2 0; have z1 := blk_cell hz.2 1; have z2 := blk_cell hz.2 2; have z3 := blk_cell hz.2 3; have y0 := blk_frozen hz.2 0; have y1 := blk_frozen hz.2 1; have y2 := blk_frozen hz.2 2; have y3 := blk_frozen hz.2 3; have HZZ := Aside0.mk hz; clear hz) | (have hz := new_held2 HZZ.out hb; have z0 := blk_cell hz.2 0; have z1 := blk_cell hz.2 1; have z2 := blk_cell hz.2 2; have z3 := blk_cell hz.2 3; have y0 := blk_frozen hz.2 0; have y1 := blk_frozen hz.2 1; have y2 := blk_frozen hz.2 2; have y3 := blk_frozen hz.2 3; have HZZ := Aside0.mk hz; clear hz) | skip); clear hb) | (go_at_call 62; rw [W4.out]; (with_reducible refine Calls.either (C4.out _ (held_cw (w0 := w1) (g := g) (h := h) (m := m) (p := p) (A := A) (c := c) (l := l) (f := f) (G := G) (by assumption)).rd.view) ?_ ?_); (intro w5 hb; exact ⟨rfl, .inr ⟨_, by decide, rfl⟩, below_then HB.out HB.out.size ((held_cw (w0 := w1) (g := g) (h := h) (m := m) (p := p) (A := A) (c := c) (l := l) (f := f) (G := G) (by assumption)).below hb).rd.bel⟩); intro w5 hb; have hS5 := ckeep2 (w0 := w1) (g := g) (h := h) (m := m) (p := p) (A := A) (c := c) (l := l) (f := f) (G := G) (by assumption) hb; (first | (have hz := new_held3 (w0 := w1) hb; have z0 := blk_cell hz.2 0; have z1 := blk_cell hz.2 1; have z2 := blk_cell hz.2 2; have z3 := blk_cell hz.2 3; have y0 := blk_frozen hz.2 0; have y1 := blk_frozen hz.2 1; have y2 := blk_frozen hz.2 2; have y3 := blk_frozen hz.2 3; have HZZ := Aside0.mk hz; clear hz) | (have hz := new_held (w0 := w1) (g := g) (h := h) (m := m) (p := p) (A := A) (c := c) (l := l) (f := f) (G := G) (by assumption) hb; have z0 := blk_cell hz.2 0; have z1 := blk_cell hz.2 1; have z2 := blk_cell hz.2 2; have z3 := blk_cell hz.2 3; have y0 := blk_frozen hz.2 0; have y1 := blk_frozen hz.2 1; have y2 := blk_frozen hz.2 2; have y3 := blk_frozen hz.2 3; have HZZ := Aside0.mk hz; clear hz) | (have hz := new_held2 HZZ.out hb; have z0 := blk_cell hz.2 0; have z1 := blk_cell hz.2 1; have z2 := blk_cell hz.2 2; have z3 := blk_cell hz.2 3; have y0 := blk_frozen hz.2 0; have y1 := blk_frozen hz.2 1; have y2 := blk_frozen hz.2 2; have y3 := blk_frozen hz.2 3; have HZZ := Aside0.mk hz; clear hz) | skip); clear hb) | (go_at_call 62; rw [W8.out]; (with_reducible refine Calls.either (C8.out _ (held_cw (w0 := w1) (g := g) (h := h) (m := m) (p := p) (A := A) (c := c) (l := l) (f := f) (G := G) (by assumption)).rd.view) ?_ ?_); (intro w5 hb; exact ⟨rfl, .inr ⟨_, by decide, rfl⟩, below_then HB.out HB.out.size ((held_cw (w0 := w1) (g := g) (h := h) (m := m) (p := p) (A := A) (c := c) (l := l) (f := f) (G := G) (by assumption)).below hb).rd.bel⟩); intro w5 hb; have hS5 := ckeep2 (w0 := w1) (g := g) (h := h) (m := m) (p := p) (A := A) (c := c) (l := l) (f := f) (G := G) (by assumption) hb; (first | (have hz := new_held3 (w0 := w1) hb; have z0 := blk_cell hz.2 0; have z1 := blk_cell hz.2 1; have z2 := blk_cell hz.2 2; have z3 := blk_cell hz.2 3; have y0 := blk_frozen hz.2 0; have y1 := blk_frozen hz.2 1; have y2 := blk_frozen hz.2 2; have y3 := blk_frozen hz.2 3; have HZZ := Aside0.mk hz; clear hz) | (have hz := new_held (w0 := w1) (g := g) (h := h) (m := m) (p := p) (A := A) (c := c) (l := l) (f := f) (G := G) (by assumption) hb; have z0 := blk_cell hz.2 0; have z1 := blk_cell hz.2 1; have z2 := blk_cell hz.2 2; have z3 := blk_cell hz.2 3; have y0 := blk_frozen hz.2 0; have y1 := blk_frozen hz.2 1; have y2 := blk_frozen hz.2 2; have y3 := blk_frozen hz.2 3; have HZZ := Aside0.mk hz; clear hz) | (have hz := new_held2 HZZ.out hb; have z0 := blk_cell hz.2 0; have z1 := blk_cell hz.2 1; have z2 := blk_cell hz.2 2; have z3 := blk_cell hz.2 3; have y0 := blk_frozen hz.2 0; have y1 := blk_frozen hz.2 1; have y2 := blk_frozen hz.2 2; have y3 := blk_frozen hz.2 3; have HZZ := Aside0.mk hz; clear hz) | skip); clear hb))
    all_goals
      go_wp2_with fail
      go_meet
      all_goals
        refine ⟨_, rfl, ⟨?_⟩, ⟨(held_cw (w0 := w1) (g := g) (h := h) (m := m) (p := p) (A := A) (c := c) (l := l) (f := f) (G := G) (by assumption))⟩⟩
        rw [W13.out]
        first | (with_reducible exact blk_new _ _) | exact blk_set (blk_set (blk_set (blk_set HZZ.out.2 0 _) 1 _) 2 _) 3 _
  case rest =>
    obtain ⟨b, rfl, HBK, HCW⟩ := hcut
    have hkp := HCW.out.rd.bel
    have hb0 := blk_below HZ.out hkp
    have d0 := blk_cell hb0 0
    have d1 := blk_cell hb0 1
    have d2 := blk_cell hb0 2
    have d3 := blk_cell hb0 3
    have e0 := blk_frozen hb0 0
    have e1 := blk_frozen hb0 1
    have e2 := blk_frozen hb0 2
    have e3 := blk_frozen hb0 3
    have t0 := blk_cell HBK.out 0
    have t1 := blk_cell HBK.out 1
    have t2 := blk_cell HBK.out 2
    have t3 := blk_cell HBK.out 3
    have HKP := Aside0.mk (below_then HB.out HB.out.size hkp)
    have hb4 := blk_set (blk_set (blk_set (blk_set hb0 0 (.int .i64 x0)) 1 (.int .i64 x4)) 2 (.int .i64 x8)) 3 (.int .i64 (13 - f))
    have HB4 := Aside0.mk hb4
    clear hkp hb0 hb4 C0 C4 C8 HC HZ HCW W4 W8 W13
    have hd : decide (x4 ≤ 1114111) = true ∨ decide (x4 ≤ 1114111) = false := by cases decide (x4 ≤ 1114111) <;> simp
    rcases hd with hd | hd
    · go_wp2_with (go_at_call 54; (refine (must_ok 51 _).mono ?_); rintro e w6 ⟨rfl, rfl⟩)
      have q0 := (blk_cell HB4.out 0).trans rfl
      have q1 := (blk_cell HB4.out 1).trans rfl
      have q2 := (blk_cell HB4.out 2).trans rfl
      have q3 := (blk_cell HB4.out 3).trans rfl
      refine bodyPost_ret (v := .agg #[.int .i64 x0, .int .i64 x4, .int .i64 x8, .int .i64 (13 - f)]) (by simp [results, Try.results73, go_sem, q0, q1, q2, q3]) rfl ⟨.inl ⟨x0, x4, x8, 13 - f, rfl, rfl, N0.out.1, N8.out.1, ?_, ?_⟩, ?_⟩
      · show x8 ≤ 4294967296
        have := N8.out.2
        omega
      · show 13 - f = 0 ∨ 13 - f = 1
        have := HF.out
        omega
      · exact below_set (below_set (below_set (below_set HKP.out HB0.out) HB0.out) HB0.out) HB0.out
    · go_wp2_with (go_at_call 54; (refine (must_no 51 _).mono ?_); rintro e w6 ⟨rfl, rfl⟩)
      exact ⟨rfl, .inr ⟨51, by decide, rfl⟩, HKP.out⟩
end Go.Proofs.Ytebmfbfmdbimdaa.F
