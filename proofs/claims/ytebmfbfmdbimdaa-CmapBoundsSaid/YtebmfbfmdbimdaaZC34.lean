/- Package cmap: the choice of a subtable in a table of one row, walked. Package cmap: a group of form 12 or 13, walked. -/
import Derived.Test.YtebmfbfmdbimdaaZC12
namespace Go.Proofs.Ytebmfbfmdbimdaa.F
open Go.RowKit Go.Proofs.YtebmfbfmdbimdaaW.PrintWords Go.Proofs.YtebmfbfmdbimdaaW.PrintLast Go.Proofs.YtebmfbfmdbimdaaW.PrintMore Go.Proofs.Ytebmfbfmdbimdaa.rowQ
set_option linter.unusedVariables false
set_option linter.unusedSimpArgs false
set_option maxRecDepth 100000 in
set_option maxHeartbeats 4000000 in
theorem choose_one (p : Nat) (A : Option Addr) (c : Nat) (l : List Int) (P E k : Int) (w : World) (h : View w p A c l) (hb : ∀ z ∈ l, 0 ≤ z ∧ z ≤ 255) (hl : 12 ≤ l.length)
    (e0 : num l 0 2 = 0) (e2 : num l 2 2 = 1) (e4 : num l 4 2 = P) (e6 : num l 6 2 = E) (e8 : num l 8 4 = 12) (hk : idxP P E rankL = k) (h0 : 0 ≤ k) (hv : (P == 0 && E == 5) = false) :
    Calls Try.prog 55 #[.agg #[.pointer (some ⟨p, 0, none⟩)]] w fun e w' => e = .returned (.tuple #[.int .i64 12, .int .i64 (-1)]) ∧ Below w.heap.size w w' := by
  have C0 := Aside0.mk (fun W (hv : View W p A c l) => cu16_ok p A c l 0 W hv hb ⟨by omega, by omega, by omega, by omega⟩)
  have C2 := Aside0.mk (fun W (hv : View W p A c l) => cu16_ok p A c l 2 W hv hb ⟨by omega, by omega, by omega, by omega⟩)
  have C4 := Aside0.mk (fun W (hv : View W p A c l) => cu16_ok p A c l 4 W hv hb ⟨by omega, by omega, by omega, by omega⟩)
  have C6 := Aside0.mk (fun W (hv : View W p A c l) => cu16_ok p A c l 6 W hv hb ⟨by omega, by omega, by omega, by omega⟩)
  have C8 := Aside0.mk (fun W (hv : View W p A c l) => cu32_ok p A c l 8 W hv hb ⟨by omega, by omega, by omega, by omega⟩)
  rw [e0] at C0
  rw [e2] at C2
  rw [e4] at C4
  rw [e6] at C6
  rw [e8] at C8
  have HK := Aside0.mk (fun (W : World) => rank_calls P E W)
  rw [hk] at HK
  have HV := Aside0.mk hv
  have h := Aside0.mk h
  have dk : decide (0 ≤ k) = true := decide_eq_true h0
  clear e0 e2 e4 e6 e8 hk hv hb hl
  have HR := Aside0.mk (Rd.new h.out)
  go_enter Try.func55, Try.ntmps55
  go_wp2_with (first | (go_at_call 61; ((with_reducible refine (C0.out _ HR.out.view).mono ?_); rintro e w2 ⟨rfl, hb⟩; have HR2 := Aside0.mk (HR.out.below hb); have hc2 := HR2.out.cell; clear hb)) | (go_at_call 54; (refine (must_ok 52 _).mono ?_); rintro e w3 ⟨rfl, rfl⟩) | (go_at_call 61; ((with_reducible refine (C2.out _ HR2.out.view).mono ?_); rintro e w4 ⟨rfl, hb⟩; have HR4 := Aside0.mk (HR2.out.below hb); have hc4 := HR4.out.cell; clear hb)) | (go_at_call 54; (refine (must_ok 53 _).mono ?_); rintro e w5 ⟨rfl, rfl⟩))
  obtain ⟨g, hg⟩ : ∃ g, g = w.heap.size := ⟨_, rfl⟩
  rw [← hg] at HR4 ⊢
  clear HR HR2 hc2 hc4 C0 C2 hg h
  go_loopw [23, 5, 6, 7] (fun s b a v wr => Aside0 (Rd w g p A c l wr) ∧ ((s = .int .i64 0 ∧ b = .int .i64 (-1) ∧ a = .int .i64 (-1) ∧ v = .int .i64 (-1)) ∨ (s = .int .i64 1 ∧ b = .int .i64 k ∧ a = .int .i64 12 ∧ v = .int .i64 (-1)))) (fun s _ _ _ _ => 1 - (intOf s).toNat)
  case atStart => exact ⟨HR4, .inl ⟨rfl, rfl, rfl, rfl⟩⟩
  case round =>
    clear HR4
    obtain ⟨HR, ⟨rfl, rfl, rfl, rfl⟩ | ⟨rfl, rfl, rfl, rfl⟩⟩ := hrel
    · have hc := HR.out.cell
      go_wp2
      have W4 : Aside0 (IntKind.i64.wrap (4 + IntKind.i64.wrap 0) = 4) := ⟨by decide⟩
      have W6 : Aside0 (IntKind.i64.wrap (6 + IntKind.i64.wrap 0) = 6) := ⟨by decide⟩
      have W8 : Aside0 (IntKind.i64.wrap (8 + IntKind.i64.wrap 0) = 8) := ⟨by decide⟩
      go_region_held3 (fun w' => w'.cell? ⟨g, 0, none⟩ = some (.pointer (some ⟨p, 0, none⟩)) ∧ Aside0 (Rd w g p A c l w'))
        (first | exact rkeep HR (below_drew (Below.refl _ _)) | assumption)
        (first | (go_at_call 61; rw [W4.out]; ((with_reducible refine (C4.out _ (held_v (w0 := w) (g := g) (p := p) (A := A) (c := c) (l := l) (by assumption))).mono ?_); rintro e w5 ⟨rfl, hb⟩; have hS5 := rkeep2 (w0 := w) (g := g) (p := p) (A := A) (c := c) (l := l) (by assumption) hb; clear hb)) | (go_at_call 61; rw [W6.out]; ((with_reducible refine (C6.out _ (held_v (w0 := w) (g := g) (p := p) (A := A) (c := c) (l := l) (by assumption))).mono ?_); rintro e w5 ⟨rfl, hb⟩; have hS5 := rkeep2 (w0 := w) (g := g) (p := p) (A := A) (c := c) (l := l) (by assumption) hb; clear hb)) | (go_at_call 62; rw [W8.out]; ((with_reducible refine (C8.out _ (held_v (w0 := w) (g := g) (p := p) (A := A) (c := c) (l := l) (by assumption))).mono ?_); rintro e w5 ⟨rfl, hb⟩; have hS5 := rkeep2 (w0 := w) (g := g) (p := p) (A := A) (c := c) (l := l) (by assumption) hb; clear hb)))
      all_goals
        have HR8 := Aside0.mk (held_r (w0 := w) (g := g) (p := p) (A := A) (c := c) (l := l) (by assumption))
        have hv := HV.out
        have hv : (P == 0) = false ∨ ((P == 0) = true ∧ (E == 5) = false) := by
          cases h1 : (P == 0) <;> cases h2 : (E == 5) <;> simp [h1, h2] at hv ⊢
        rcases hv with hv | ⟨hv, hv2⟩
        all_goals
          go_wp2_with (go_at_call 63; (refine (HK.out _).mono ?_); rintro e w6 ⟨rfl, hb⟩; have HR9 := Aside0.mk (HR8.out.below hb); clear hb)
          go_roundw
          case rel => exact ⟨HR9, .inr ⟨by go_num, rfl, rfl, rfl⟩⟩
          case measure => simp [intOf]
    · go_wp2_with (go_at_call 54; (refine (must_ok 52 _).mono ?_); rintro e w6 ⟨rfl, rfl⟩)
      go_ret2
      exact ⟨rfl, HR.out.bel⟩
end Go.Proofs.Ytebmfbfmdbimdaa.F
namespace Go.Proofs.Ytebmfbfmdbimdaa.F
open Go.RowKit Go.Proofs.YtebmfbfmdbimdaaW.PrintWords Go.Proofs.YtebmfbfmdbimdaaW.PrintLast Go.Proofs.YtebmfbfmdbimdaaW.PrintMore Go.Proofs.Ytebmfbfmdbimdaa.rowQ
set_option linter.unusedVariables false
set_option linter.unusedSimpArgs false
/-- What a closure of subtable finds: the reader, the map. -/
structure Cw (w0 : World) (g h m p : Nat) (A : Option Addr) (c : Nat) (l : List Int) (f G : Int) (w : World) : Prop where
  rd : Rd w0 g p A c l w
  ptr : w.heap[h]? = some (.cells #[.pointer (some ⟨m, 0, none⟩)] 57 (0, 0))
  map : w.heap[m]? = some (.cells #[.int .i64 f, .int .i64 G, .slice none 0 0, .nilFunc, .slice none 0 0] 93 (0, 0))
section
variable {w0 w w' w'' : World} {g h m p : Nat} {A : Option Addr} {c : Nat} {l : List Int} {f G : Int}
theorem Cw.below (x : Cw w0 g h m p A c l f G w) (hb : Below w.heap.size w w') : Cw w0 g h m p A c l f G w' := ⟨x.rd.below hb, blk_below x.ptr hb, blk_below x.map hb⟩
theorem Cw.cells (x : Cw w0 g h m p A c l f G w) : w.cell? ⟨g, 0, none⟩ = some (.pointer (some ⟨p, 0, none⟩)) ∧ w.cell? ⟨h, 0, none⟩ = some (.pointer (some ⟨m, 0, none⟩)) ∧ w.cell? ⟨m, 0, none⟩ = some (.int .i64 f) ∧ w.cell? ⟨m, 1, none⟩ = some (.int .i64 G) :=
  ⟨x.rd.cell, (blk_cell x.ptr 0).trans rfl, (blk_cell x.map 0).trans rfl, (blk_cell x.map 1).trans rfl⟩
def CS (w0 : World) (g h m p : Nat) (A : Option Addr) (c : Nat) (l : List Int) (f G : Int) (w' : World) : Prop :=
  w'.cell? ⟨g, 0, none⟩ = some (.pointer (some ⟨p, 0, none⟩)) ∧ w'.cell? ⟨h, 0, none⟩ = some (.pointer (some ⟨m, 0, none⟩)) ∧ w'.cell? ⟨m, 0, none⟩ = some (.int .i64 f) ∧ Aside0 (Cw w0 g h m p A c l f G w')
theorem ckeep (x : Aside0 (Cw w0 g h m p A c l f G w')) (hb : Below w'.heap.size w' w'') : w''.cell? ⟨g, 0, none⟩ = some (.pointer (some ⟨p, 0, none⟩)) ∧ w''.cell? ⟨h, 0, none⟩ = some (.pointer (some ⟨m, 0, none⟩)) ∧ w''.cell? ⟨m, 0, none⟩ = some (.int .i64 f) ∧ Aside0 (Cw w0 g h m p A c l f G w'') :=
  ⟨(x.out.below hb).cells.1, (x.out.below hb).cells.2.1, (x.out.below hb).cells.2.2.1, ⟨x.out.below hb⟩⟩
theorem ckeep2 (x : w'.cell? ⟨g, 0, none⟩ = some (.pointer (some ⟨p, 0, none⟩)) ∧ w'.cell? ⟨h, 0, none⟩ = some (.pointer (some ⟨m, 0, none⟩)) ∧ w'.cell? ⟨m, 0, none⟩ = some (.int .i64 f) ∧ Aside0 (Cw w0 g h m p A c l f G w')) (hb : Below w'.heap.size w' w'') : w''.cell? ⟨g, 0, none⟩ = some (.pointer (some ⟨p, 0, none⟩)) ∧ w''.cell? ⟨h, 0, none⟩ = some (.pointer (some ⟨m, 0, none⟩)) ∧ w''.cell? ⟨m, 0, none⟩ = some (.int .i64 f) ∧ Aside0 (Cw w0 g h m p A c l f G w'') := ckeep x.2.2.2 hb
theorem cset (x : Aside0 (Cw w0 g h m p A c l f G w0)) (hb : Below w0.heap.size w0 w'') : w''.cell? ⟨g, 0, none⟩ = some (.pointer (some ⟨p, 0, none⟩)) ∧ w''.cell? ⟨h, 0, none⟩ = some (.pointer (some ⟨m, 0, none⟩)) ∧ w''.cell? ⟨m, 0, none⟩ = some (.int .i64 f) ∧ Aside0 (Cw w0 g h m p A c l f G w'') := ckeep x hb
theorem new_held {o : Obj} (x : w'.cell? ⟨g, 0, none⟩ = some (.pointer (some ⟨p, 0, none⟩)) ∧ w'.cell? ⟨h, 0, none⟩ = some (.pointer (some ⟨m, 0, none⟩)) ∧ w'.cell? ⟨m, 0, none⟩ = some (.int .i64 f) ∧ Aside0 (Cw w0 g h m p A c l f G w')) (hb : Below (w'.alloc o).heap.size (w'.alloc o) w'') : w0.heap.size ≤ w'.heap.size ∧ w''.heap[w'.heap.size]? = some o :=
  ⟨x.2.2.2.out.rd.bel.size, blk_below (blk_new _ _) hb⟩
theorem new_held3 {o : Obj} (hb : Below ((w0.alloc o).drew).heap.size ((w0.alloc o).drew) w'') : w0.heap.size ≤ w0.heap.size ∧ w''.heap[w0.heap.size]? = some o := ⟨Nat.le_refl _, blk_below (w := (w0.alloc o).drew) (blk_new w0 o) hb⟩
theorem new_held2 {b B : Nat} {o : Obj} (x : B ≤ b ∧ w'.heap[b]? = some o) (hb : Below w'.heap.size w' w'') : B ≤ b ∧ w''.heap[b]? = some o := ⟨x.1, blk_below x.2 hb⟩
theorem held_cw (x : w'.cell? ⟨g, 0, none⟩ = some (.pointer (some ⟨p, 0, none⟩)) ∧ w'.cell? ⟨h, 0, none⟩ = some (.pointer (some ⟨m, 0, none⟩)) ∧ w'.cell? ⟨m, 0, none⟩ = some (.int .i64 f) ∧ Aside0 (Cw w0 g h m p A c l f G w')) : Cw w0 g h m p A c l f G w' := x.2.2.2.out
end
end Go.Proofs.Ytebmfbfmdbimdaa.F
