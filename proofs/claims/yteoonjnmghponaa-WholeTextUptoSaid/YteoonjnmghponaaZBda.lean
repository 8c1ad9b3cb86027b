/- Package bidi: the stack of levels in memory; its top, walked. Package bidi: the stack's steps, walked. Package bidi: the stack grows, walked. Package bidi: an isolate opened, walked. -/
import Derived.Test.YteoonjnmghponaaZBib
namespace Go.Proofs.Yteoonjnmghponaa.F
open Go.RowKit Go.Proofs.YteoonjnmghponaaW.PrintWords Go.Proofs.YteoonjnmghponaaW.PrintLast Go.Proofs.YteoonjnmghponaaW.PrintMore
set_option linter.unusedVariables false
set_option linter.unusedSimpArgs false
/-- An entry of the stack. -/
structure En where
  f0 : Int
  f1 : Int
  f2 : Bool
def zEn : En := ⟨0, 0, false⟩
def kEn : Kd En := Kd.iso (Kd.pair (Kd.int .i64) (Kd.pair (Kd.int .i64) Kd.bool)) (fun x : En => (x.f0, x.f1, x.f2))
theorem kEn_open {w : World} {x : En} {cs : List Value} (h : kEn.K w x cs) : cs = [.int .i64 x.f0, .int .i64 x.f1, .bool x.f2] := by
  obtain ⟨_, _, rfl, rfl, ⟨_, _, rfl, rfl, rfl⟩⟩ := h
  exact rfl
theorem kEn_mkM (w : World) (base : Nat) (ok : Nat → Prop) (x : En) : kEn.M w base ok x [.int .i64 x.f0, .int .i64 x.f1, .bool x.f2] := ⟨[.int .i64 x.f0], [.int .i64 x.f1, .bool x.f2], rfl, rfl, ⟨[.int .i64 x.f1], [.bool x.f2], rfl, rfl, rfl⟩⟩
def rdEn (xs : List En) (i : Int) : En := xs.getD i.toNat zEn
theorem at_En {w : World} {A : Option Addr} {n : Nat} {xs : List En} (h : Kd.C kEn w A n xs) (i : Int) (h0 : 0 ≤ i) (h1 : i < n) : ∃ ad, A = some ad ∧ w.cell? (ad.add (i.toNat * 3)) = some (.int .i64 (rdEn xs i).f0) ∧ w.cell? ⟨(ad.add (i.toNat * 3)).block, (ad.add (i.toNat * 3)).off + 1, none⟩ = some (.int .i64 (rdEn xs i).f1) ∧ w.cell? ⟨(ad.add (i.toNat * 3)).block, (ad.add (i.toNat * 3)).off + 2, none⟩ = some (.bool (rdEn xs i).f2) := by
  obtain ⟨ad, c, e, _, hK, hc0⟩ := Kd.C_get h zEn i h0 h1
  have hc : ∀ j u, c[j]? = some u → w.cell? (ad.add (i.toNat * 3 + j)) = some u := hc0
  obtain rfl := kEn_open hK
  exact ⟨ad, e, hc 0 _ rfl, by rw [← add_field _ _ 1 (by omega)]; exact hc 1 _ rfl, by rw [← add_field _ _ 2 (by omega)]; exact hc 2 _ rfl⟩
theorem infoEn : (Try.prog.info? 125).map (fun i => (i.zero, i.size, i.bytes)) = some (some (.agg #[(.int .i64 0), (.int .i64 0), (.bool false)]), 3, 24) := by kernel_rfl
/-- How many entries are isolates. -/
def isos (es : List En) : Int := ((es.filter fun x => x.f2).length : Int)
/-- The stack's entries: never none, the lowest no isolate. -/
def Good (es : List En) (is : Int) : Prop := ∃ e0 r, es = e0 :: r ∧ e0.f2 = false ∧ is = isos es
/-- The stack lies at gp. -/
structure St (t : TP) (b : Nat) (gp : Nat) (v : Value) (es : List En) (o em is : Int) (W : World) : Prop where
  blk : W.heap[gp]? = some (.cells #[.pointer (some ⟨t.tp, 0, none⟩), v, .int .i64 o, .int .i64 em, .int .i64 is] 122 (0, 0))
  row : kEn.R 125 W b (fun _ => True) v es
theorem St.below {t : TP} {b gp : Nat} {v : Value} {es : List En} {o em is : Int} {W W' : World} (h : St t b gp v es o em is W) (hb : Below W.heap.size W W') : St t b gp v es o em is W' := ⟨blk_below h.blk hb, Kd.R_below h.row hb⟩
set_option maxRecDepth 100000 in
set_option maxHeartbeats 2000000 in
theorem top_any {t : TP} {b gp : Nat} {v : Value} {es : List En} {o em is : Int} {w : World} (h : St t b gp v es o em is w) (h0 : 0 < es.length) (h1 : es.length ≤ 100000) :
    Calls Try.prog 69 #[.pointer (some ⟨gp, 0, none⟩)] w fun e w' => e = .returned (.agg #[.int .i64 (rdEn es (es.length - 1)).f0, .int .i64 (rdEn es (es.length - 1)).f1, .bool (rdEn es (es.length - 1)).f2]) ∧ Below w.heap.size w w' := by
  obtain ⟨A, c, rfl, _, hC⟩ := Kd.R_reads h.row
  have c1 : w.cell? ⟨gp, 1, none⟩ = some (.slice A es.length c) := (blk_cell h.blk 1).trans rfl
  obtain ⟨ad, rfl, i0, i1, i2⟩ := at_En hC (es.length - 1) (by omega) (by omega)
  have hgp := blk_lt h.blk
  have c1' : (w.alloc (.cells #[.int .i64 0, .int .i64 0, .bool false] 125)).cell? ⟨gp, 1, none⟩ = some (.slice (some ad) es.length c) := ((below_alloc (Below.refl _ _) _).cell hgp).trans c1
  have j0 := ((below_alloc (Below.refl w.heap.size w) (.cells #[.int .i64 0, .int .i64 0, .bool false] 125)).cell (World.block_lt_of_cell? w _ i0)).trans i0
  have j1 := ((below_alloc (Below.refl w.heap.size w) (.cells #[.int .i64 0, .int .i64 0, .bool false] 125)).cell (World.block_lt_of_cell? w _ i1)).trans i1
  have j2 := ((below_alloc (Below.refl w.heap.size w) (.cells #[.int .i64 0, .int .i64 0, .bool false] 125)).cell (World.block_lt_of_cell? w _ i2)).trans i2
  generalize (rdEn es (es.length - 1)).f0 = x0 at *
  generalize (rdEn es (es.length - 1)).f1 = x1 at *
  generalize (rdEn es (es.length - 1)).f2 = x2 at *
  generalize hn : es.length = n at *
  clear h hC hn
  have hn0 : (0 : Int) < n := by omega
  have hwr : IntKind.i64.wrap ((n : Int) - 1) = n - 1 := IntWalk.i64_in _ (by omega)
  rw [show ((n : Int) - 1).toNat = n - 1 by omega] at i0 i1 i2 j0 j1 j2
  have hn1 : (n : Int) ≤ 100000 := by omega
  go_enter Try.func69, Try.ntmps69
  go_wp2
  refine wp_region_quiet_tail 12 (by kernel_rfl) (by kernel_rfl) ?_
  simp only [List.take_succ_cons, List.take_zero, List.drop_succ_cons, List.drop_zero]
  repeat (first | go_big_quiet_skip | (go_big_quiet_want; go_big_quiet_op; go_big_quiet_on) | rw [hwr])
  refine wpQuiet_nil ?_
  go_wp2_with fail
  go_returns
  exact ⟨rfl, below_drew (below_alloc (Below.refl _ _) _)⟩
/-- What a text rests on lies below N. -/
structure Low (t : TP) (N : Nat) : Prop where
  tp : t.tp < N
  bN : t.bN < N
  bL : t.bL < N
  rows : ∀ ad, (t.Ac = some ad ∨ t.Af = some ad ∨ t.Am = some ad) → 0 < t.n → ad.block < N
theorem C_keep {A : Option Addr} {n N : Nat} {l : List Int} {W W' : World} (h : Kd.C (Kd.int .i64) W A n l) (hk : ∀ k, k < N → W'.heap[k]? = W.heap[k]?) (hA : ∀ ad, A = some ad → 0 < n → ad.block < N) : Kd.C (Kd.int .i64) W' A n l := by
  refine ⟨h.1, h.2.1, fun hn => ?_⟩
  obtain ⟨ad, he, hc⟩ := h.2.2 hn
  refine ⟨ad, he, fun j p hj => ?_⟩
  obtain ⟨cs, e1, e2, e3⟩ := hc j p hj
  refine ⟨cs, e1, e2, fun i u hu => ?_⟩
  rw [← e3 i u hu]
  exact World.cell?_of_block (w := W) (hk _ (by rw [add_block]; exact hA ad he hn))
theorem Tx.high {B : Nat} {t : TP} {xs ys : List Int} {W W' : World} {N : Nat} (h : Tx B t xs ys W) (l : Low t N) (hk : ∀ k, k < N → W'.heap[k]? = W.heap[k]?) : Tx B t xs ys W' := by
  have hl := h.lens
  exact ⟨(hk _ l.tp).trans h.blk, C_keep h.rc hk (fun ad e hn => l.rows ad (.inl e) (by omega)), C_keep h.rf hk (fun ad e hn => l.rows ad (.inr (.inl e)) (by omega)), C_keep h.rm hk (fun ad e hn => l.rows ad (.inr (.inr e)) (by omega)), h.lens,
    Kd.R_step h.now (fun k e _ => hk k (by rw [e]; exact l.bN)), Kd.R_step h.lev (fun k e _ => hk k (by rw [e]; exact l.bL)), h.ne, h.far⟩
theorem Tx.low {B : Nat} {t : TP} {xs ys : List Int} {W : World} (h : Tx B t xs ys W) (hz : t.bN < W.heap.size ∧ t.bL < W.heap.size) : Low t W.heap.size := by
  have hl := h.lens
  have key : ∀ (A : Option Addr) (l : List Int) (ad : Addr), Kd.C (Kd.int .i64) W A l.length l → A = some ad → 0 < l.length → ad.block < W.heap.size := by
    intro A l ad hC he hn
    obtain ⟨ad', he', hc⟩ := Kd.at_int hC 0 (by omega) (by omega)
    rw [he] at he'
    cases he'
    have := World.block_lt_of_cell? W _ hc
    rwa [add_block] at this
  exact ⟨blk_lt h.blk, hz.1, hz.2, fun ad e hn => by
    rcases e with e | e | e
    · exact key _ _ _ h.rc e (by omega)
    · exact key _ _ _ h.rf e (by omega)
    · exact key _ _ _ h.rm e (by omega)⟩
/-- The stack in memory, while the first step runs: w is the world as the step began. -/
structure Sk (B : Nat) (t : TP) (w : World) (gp : Nat) (len : Int) (W : World) : Prop where
  tx : ∃ xs ys, Tx B t xs ys W
  ch : Ch B t w W
  lo : B ≤ w.heap.size
  low : Low t w.heap.size
  hgp : w.heap.size ≤ gp
  st : ∃ v es o em is, St t w.heap.size gp v es o em is W ∧ Good es is ∧ (es.length : Int) ≤ len
section
variable {B : Nat} {t : TP} {w : World} {gp : Nat} {len : Int} {W W' : World}
theorem Sk.below (h : Sk B t w gp len W) (hb : Below W.heap.size W W') : Sk B t w gp len W' := by
  obtain ⟨xs, ys, hx⟩ := h.tx
  obtain ⟨v, es, o, em, is, h1, h2, h3⟩ := h.st
  exact ⟨⟨xs, ys, hx.below hb⟩, h.ch.below (Nat.le_trans h.lo h.ch.size) hb, h.lo, h.low, h.hgp, v, es, o, em, is, h1.below hb, h2, h3⟩
theorem Sk.drewN (h : Sk B t w gp len W) (q : Nat) : Sk B t w gp len (W.drewN q) := h.below (pw_below_drewN (Below.refl _ _) q)
theorem Sk.mono {len' : Int} (h : Sk B t w gp len W) (hl : len ≤ len') : Sk B t w gp len' W := by
  obtain ⟨v, es, o, em, is, h1, h2, h3⟩ := h.st
  exact ⟨h.tx, h.ch, h.lo, h.low, h.hgp, v, es, o, em, is, h1, h2, by omega⟩
/-- Only blocks of the step's own have turned. -/
theorem Sk.own {len' : Int} (h : Sk B t w gp len W) (hb : Below w.heap.size W W') {v : Value} {es : List En} {o em is : Int} (hs : St t w.heap.size gp v es o em is W') (hg : Good es is) (hl : (es.length : Int) ≤ len') : Sk B t w gp len' W' := by
  obtain ⟨xs, ys, hx⟩ := h.tx
  exact ⟨⟨xs, ys, hx.high h.low hb.block⟩, ⟨h.ch.bel.trans (hb.mono h.lo), Nat.le_trans h.ch.size hb.size, fun k hk n1 n2 => (hb.block k hk).trans (h.ch.keep k hk n1 n2)⟩, h.lo, h.low, h.hgp, v, es, o, em, is, hs, hg, hl⟩
theorem Sk.setL (h : Sk B t w gp len W) (z c : Int) (h0 : 0 ≤ z) (h1 : z < t.n) : Sk B t w gp len (W.setCell ⟨t.bL, z.toNat, none⟩ (.int .i64 c)) := by
  obtain ⟨xs, ys, hx⟩ := h.tx
  obtain ⟨v, es, o, em, is, hs, h2, h3⟩ := h.st
  have hg := h.hgp
  have hl := h.low.bL
  exact ⟨⟨_, _, hx.setL z c h0 h1⟩, h.ch.trans (Ch.setL (z := z) (v := .int .i64 c) hx (by omega)), h.lo, h.low, h.hgp, v, es, o, em, is, ⟨blk_far hs.blk (by show gp ≠ t.bL; omega) _, Kd.R_mono (Kd.R_far (p := ⟨t.bL, z.toNat, none⟩) (Kd.R_bound hs.row) (fun k hk => by have := hk.2.1; show k ≠ t.bL; omega) _) (fun _ _ => trivial)⟩, h2, h3⟩
theorem Sk.setN (h : Sk B t w gp len W) (z c : Int) (h0 : 0 ≤ z) (h1 : z < t.n) : Sk B t w gp len (W.setCell ⟨t.bN, z.toNat, none⟩ (.int .i64 c)) := by
  obtain ⟨xs, ys, hx⟩ := h.tx
  obtain ⟨v, es, o, em, is, hs, h2, h3⟩ := h.st
  have hg := h.hgp
  have hl := h.low.bN
  exact ⟨⟨_, _, hx.setN z c h0 h1⟩, h.ch.trans (Ch.setN (z := z) (v := .int .i64 c) hx (by omega)), h.lo, h.low, h.hgp, v, es, o, em, is, ⟨blk_far hs.blk (by show gp ≠ t.bN; omega) _, Kd.R_mono (Kd.R_far (p := ⟨t.bN, z.toNat, none⟩) (Kd.R_bound hs.row) (fun k hk => by have := hk.2.1; show k ≠ t.bN; omega) _) (fun _ _ => trivial)⟩, h2, h3⟩
end
section
variable {t : TP} {b gp : Nat} {v v' : Value} {es es' : List En} {o em is x : Int} {W : World}
theorem ne122 : ∀ q, q ∈ 125 :: kEn.E → q ≠ 122 := by decide
theorem St.put1 (h : St t b gp v es o em is W) (hr : kEn.R 125 W b (fun _ => True) v' es') : St t b gp v' es' o em is (W.setCell ⟨gp, 1, none⟩ v') := ⟨blk_put h.blk 1 _ rfl, Kd.R_set hr h.blk ne122 1 _⟩
theorem St.put2 (h : St t b gp v es o em is W) : St t b gp v es x em is (W.setCell ⟨gp, 2, none⟩ (.int .i64 x)) := ⟨blk_put h.blk 2 _ rfl, Kd.R_set h.row h.blk ne122 2 _⟩
theorem St.put3 (h : St t b gp v es o em is W) : St t b gp v es o x is (W.setCell ⟨gp, 3, none⟩ (.int .i64 x)) := ⟨blk_put h.blk 3 _ rfl, Kd.R_set h.row h.blk ne122 3 _⟩
theorem St.put4 (h : St t b gp v es o em is W) : St t b gp v es o em x (W.setCell ⟨gp, 4, none⟩ (.int .i64 x)) := ⟨blk_put h.blk 4 _ rfl, Kd.R_set h.row h.blk ne122 4 _⟩
end
theorem topx {B : Nat} {t : TP} {w : World} {gp : Nat} {len : Int} {W : World} (h : Sk B t w gp len W) (hl : len ≤ 100000) :
    Calls Try.prog 69 #[.pointer (some ⟨gp, 0, none⟩)] W fun e w' => ∃ (x0 x1 : Int) (x2 : Bool), e = .returned (.agg #[.int .i64 x0, .int .i64 x1, .bool x2]) ∧ Below W.heap.size W w' := by
  obtain ⟨v, es, o, em, is, h1, ⟨e0, r, h2, _⟩, h3⟩ := h.st
  exact (top_any h1 (by rw [h2]; simp) (by omega)).mono fun e w' hh => ⟨_, _, _, hh⟩
set_option maxRecDepth 100000 in
set_option maxHeartbeats 2000000 in
theorem fits_any {B : Nat} {t : TP} {w : World} {gp : Nat} {len : Int} {W : World} (h : Sk B t w gp len W) (y : Int) :
    ∃ z : Bool, Calls Try.prog 103 #[.pointer (some ⟨gp, 0, none⟩), .int .i64 y] W fun e w' => e = .returned (.bool z) ∧ ∃ q, w' = W.drewN q := by
  obtain ⟨v, es, o, em, is, h1, _, _⟩ := h.st
  have c2 : W.cell? ⟨gp, 2, none⟩ = some (.int .i64 o) := (blk_cell h1.blk 2).trans rfl
  have c3 : W.cell? ⟨gp, 3, none⟩ = some (.int .i64 em) := (blk_cell h1.blk 3).trans rfl
  clear h h1
  refine ⟨decide (y ≤ 125) && (o == 0) && (em == 0), ?_⟩
  obtain ⟨d1, e1⟩ : ∃ d, decide (y ≤ 125) = d := ⟨_, rfl⟩
  obtain ⟨d2, e2⟩ : ∃ d, (o == 0) = d := ⟨_, rfl⟩
  obtain ⟨d3, e3⟩ : ∃ d, (em == 0) = d := ⟨_, rfl⟩
  rw [e1, e2, e3]
  cases d1 <;> cases d2 <;> cases d3
  all_goals
  (go_enter Try.func103, Try.ntmps103
   go_wp2
   go_ret
   exact ⟨by first | rfl | simp, 0, rfl⟩)
set_option maxRecDepth 100000 in
set_option maxHeartbeats 2000000 in
theorem next_any {B : Nat} {t : TP} {w : World} {gp : Nat} {len : Int} {W : World} (h : Sk B t w gp len W) (hl : len ≤ 100000) (b : Bool) :
    Calls Try.prog 102 #[.pointer (some ⟨gp, 0, none⟩), .bool b] W fun e w' => (∃ y : Int, e = .returned (.int .i64 y)) ∧ Below W.heap.size W w' := by
  have HT := Aside0.mk (topx h hl)
  have hf0 : ∀ (a b : Int) (c : Bool) (w : World), (Instr.field 125 (.agg #[.int .i64 a, .int .i64 b, .bool c]) 0).run Try.prog w = .ok (.int .i64 a) w := fun _ _ _ _ => by kernel_rfl
  clear h
  go_enter Try.func102, Try.ntmps102
  go_wp2_with (go_at_call 69; ((with_reducible refine HT.out.mono ?_); rintro e w1 ⟨x0, x1, x2, rfl, hb⟩; have HB := Aside0.mk hb; clear hb))
  all_goals
  (go_ret
   exact ⟨⟨_, rfl⟩, HB.out⟩)
end Go.Proofs.Yteoonjnmghponaa.F
namespace Go.Proofs.Yteoonjnmghponaa.F
open Go.RowKit Go.Proofs.YteoonjnmghponaaW.PrintWords Go.Proofs.YteoonjnmghponaaW.PrintLast Go.Proofs.YteoonjnmghponaaW.PrintMore
set_option linter.unusedVariables false
set_option linter.unusedSimpArgs false
/-- The memory that a level's place is written through. -/
theorem Sk.cellsL {B : Nat} {t : TP} {w : World} {gp : Nat} {len : Int} {W : World} (h : Sk B t w gp len W) (i : Int) (h0 : 0 ≤ i) (h1 : i < t.n) :
  W.cell? ⟨gp, 0, none⟩ = some (.pointer (some ⟨t.tp, 0, none⟩)) ∧ (∃ c y, W.cell? ⟨t.tp, 3, none⟩ = some (.slice (some ⟨t.bL, 0, none⟩) t.n c) ∧ W.cell? ⟨t.bL, i.toNat, none⟩ = some (.int .i64 y) ∧ W.frozen? ⟨t.bL, i.toNat, none⟩ = false) ∧ (∃ c y, W.cell? ⟨t.tp, 2, none⟩ = some (.slice (some ⟨t.bN, 0, none⟩) t.n c) ∧ W.cell? ⟨t.bN, i.toNat, none⟩ = some (.int .i64 y) ∧ W.frozen? ⟨t.bN, i.toNat, none⟩ = false) := by
 obtain ⟨xs, ys, hx⟩ := h.tx
 obtain ⟨v, es, o, em, is, hs, _⟩ := h.st
 have hyl : ys.length = t.n := hx.lens.2.2.2.2
 have hxl : xs.length = t.n := hx.lens.2.2.2.1
 obtain ⟨c, hv, _⟩ := hx.formL (by omega)
 obtain ⟨c', hv', _⟩ := hx.formN (by omega)
 have hL := hx.lev
 have hN := hx.now
 rw [hv] at hL
 rw [hv'] at hN
 obtain ⟨l1, l2⟩ := Kd.R_celln 0 hL i h0 (by omega)
 obtain ⟨n1, n2⟩ := Kd.R_celln 0 hN i h0 (by omega)
 refine ⟨(blk_cell hs.blk 0).trans rfl, ⟨c, _, ?_, l1, l2⟩, ⟨c', _, ?_, n1, n2⟩⟩
 ·rw [← hyl, ← hv]; exact (blk_cell hx.blk 3).trans rfl
 ·rw [← hxl, ← hv']; exact (blk_cell hx.blk 2).trans rfl
set_option maxRecDepth 100000 in
set_option maxHeartbeats 4000000 in
theorem plain_any {B : Nat} {t : TP} {w : World} {gp : Nat} {len : Int} {W : World} (h : Sk B t w gp len W) (hl : len ≤ 100000) (i : Int) (h0 : 0 ≤ i) (h1 : i < t.n) (hn : t.n ≤ 16384) :
  Calls Try.prog 70 #[.pointer (some ⟨gp, 0, none⟩), .int .i64 i] W fun e w' => e = .returned (.tuple #[]) ∧ Sk B t w gp len w' := by
 have HT := Aside0.mk (topx h hl)
 have HS := Aside0.mk h
 clear h
 go_enter Try.func70, Try.ntmps70
 go_wp2_with fail
 go_at_call 69
 refine HT.out.mono ?_
 rintro e w1 ⟨x0, x1, x2, rfl, hb⟩
 have HS1 := Aside0.mk (HS.out.below hb)
 clear hb HT HS
 go_wp2
 have HS2 := Aside0.mk (HS1.out.below (below_alloc (Below.refl _ _) (Obj.cells #[Value.int IntKind.i64 x0, Value.int IntKind.i64 x1, Value.bool x2] 125)))
 have b0 : (w1.alloc (Obj.cells #[Value.int IntKind.i64 x0, Value.int IntKind.i64 x1, Value.bool x2] 125)).cell? ⟨w1.heap.size, 0, none⟩ = some (.int .i64 x0) := (blk_cell (blk_new _ _) 0).trans rfl
 have b1 : (w1.alloc (Obj.cells #[Value.int IntKind.i64 x0, Value.int IntKind.i64 x1, Value.bool x2] 125)).cell? ⟨w1.heap.size, 1, none⟩ = some (.int .i64 x1) := (blk_cell (blk_new _ _) 1).trans rfl
 have hpb : w1.heap.size ≠ t.bL := by have := HS1.out.low.bL; have := HS1.out.ch.size; omega
 generalize w1.alloc (Obj.cells #[Value.int IntKind.i64 x0, Value.int IntKind.i64 x1, Value.bool x2] 125) = w2 at *
 generalize w1.heap.size = pb at *
 clear HS1
 obtain ⟨g0, ⟨cL, yL, g1, g2, g3⟩, _⟩ := HS2.out.cellsL i h0 h1
 refine wp_region_quiet_tail 11 (by kernel_rfl) (by kernel_rfl) ?_
 simp only [List.take_succ_cons, List.take_zero, List.drop_succ_cons, List.drop_zero]
 repeat (first | go_big_quiet_skip | (go_big_quiet_want; go_big_quiet_op; go_big_quiet_on))
 refine wpQuiet_nil ?_
 obtain ⟨dn, hdn⟩ : ∃ d, (x1 != -1) = d := ⟨_, rfl⟩
 have HS3 : Aside0 (Sk B t w gp len (w2.setCell ⟨t.bL, i.toNat, none⟩ (.int .i64 x0)).drew) := ⟨(HS2.out.setL i x0 h0 h1).below (below_drew (Below.refl _ _))⟩
 have k1 : (w2.setCell ⟨t.bL, i.toNat, none⟩ (.int .i64 x0)).drew.cell? ⟨pb, 1, none⟩ = some (.int .i64 x1) := (World.cell?_of_block (w := w2) (Below.heap_setCell w2 ⟨t.bL, i.toNat, none⟩ _ pb hpb)).trans b1
 cases dn
 ·go_wp2
  go_returns
  exact ⟨rfl, HS3.out⟩
 ·go_wp2
  clear HS2 b0 b1 g0 g1 g2 g3
  generalize (w2.setCell ⟨t.bL, i.toNat, none⟩ (.int .i64 x0)).drew = w3 at *
  obtain ⟨g0, _, ⟨cN, yN, g1, g2, g3⟩⟩ := HS3.out.cellsL i h0 h1
  refine wp_region_quiet_tail 11 (by kernel_rfl) (by kernel_rfl) ?_
  simp only [List.take_succ_cons, List.take_zero, List.drop_succ_cons, List.drop_zero]
  repeat (first | go_big_quiet_skip | (go_big_quiet_want; go_big_quiet_op; go_big_quiet_on))
  refine wpQuiet_nil ?_
  go_wp2
  go_returns
  exact ⟨rfl, (HS3.out.setN i x1 h0 h1).below (below_drew (Below.refl _ _))⟩
theorem lit_En (W : World) (b : Nat) (hb : b ≤ W.heap.size) (x : En) : kEn.R 125 (W.alloc (.cells #[.int .i64 x.f0, .int .i64 x.f1, .bool x.f2] 125)) b (fun _ => True) (.slice (some ⟨W.heap.size, 0, none⟩) 1 1) [x] := by
 refine ⟨fun _ _ => trivial, [.int .i64 x.f0, .int .i64 x.f1, .bool x.f2], ?_, rfl, fun j p hj => ?_⟩
 ·have h2 := World.ownsRow_lit (base := b) (e := 125) (size := 3) W #[.int .i64 x.f0, .int .i64 x.f1, .bool x.f2] 1 hb (by simp [maxLen]) (by simp)
  exact h2
 ·rcases j with _ | j
  ·obtain rfl : x = p := by simpa using hj
   exact kEn_mkM _ _ _ _
  ·simp at hj
/-- Three counters set to nought. -/
theorem zeros {t : TP} {b gp : Nat} {v : Value} {es : List En} {o em is : Int} {W : World} (h : St t b gp v es o em is W) : St t b gp v es 0 0 0 (((W.setCell ⟨gp, 2, none⟩ (.int .i64 0)).setCell ⟨gp, 3, none⟩ (.int .i64 0)).setCell ⟨gp, 4, none⟩ (.int .i64 0)) := h.put2.put3.put4
set_option maxRecDepth 100000 in
set_option maxHeartbeats 4000000 in
theorem reset_any {B : Nat} {t : TP} {w : World} {gp : Nat} {W : World} {xs ys : List Int} (hx : Tx B t xs ys W) (hc : Ch B t w W) (hlo : B ≤ w.heap.size) (low : Low t w.heap.size) (hgp : w.heap.size ≤ gp) {v : Value} {o em is : Int} (hb : W.heap[gp]? = some (.cells #[.pointer (some ⟨t.tp, 0, none⟩), v, .int .i64 o, .int .i64 em, .int .i64 is] 122 (0, 0))) :
  Calls Try.prog 65 #[.pointer (some ⟨gp, 0, none⟩)] W fun e w' => e = .returned (.tuple #[]) ∧ Sk B t w gp 1 w' := by
 have c0 : W.cell? ⟨gp, 0, none⟩ = some (.pointer (some ⟨t.tp, 0, none⟩)) := (blk_cell hb 0).trans rfl
 have hb1 := blk_alloc hb (.cells #[.int .i64 t.bs, .int .i64 (-1), .bool false] 125)
 have c1 : (W.alloc (.cells #[.int .i64 t.bs, .int .i64 (-1), .bool false] 125)).cell? ⟨gp, 1, none⟩ = some v := (blk_cell hb1 1).trans rfl
 have c5 : W.cell? ⟨t.tp, 5, none⟩ = some (.int .i64 t.bs) := (blk_cell hx.blk 5).trans rfl
 have f1 := blk_frozen hb1 1
 have hr := lit_En W w.heap.size hc.size ⟨t.bs, -1, false⟩
 have hS : Aside0 (St t w.heap.size gp _ _ o em is ((W.alloc (.cells #[.int .i64 t.bs, .int .i64 (-1), .bool false] 125)).setCell ⟨gp, 1, none⟩ (.slice (some ⟨W.heap.size, 0, none⟩) 1 1))) := ⟨blk_put hb1 1 (.slice (some ⟨W.heap.size, 0, none⟩) 1 1) rfl, Kd.R_set hr hb1 ne122 1 _⟩
 have HB : Aside0 (Below w.heap.size W ((W.alloc (.cells #[.int .i64 t.bs, .int .i64 (-1), .bool false] 125)).setCell ⟨gp, 1, none⟩ (.slice (some ⟨W.heap.size, 0, none⟩) 1 1))) := ⟨((Below.refl _ _).alloc hc.size _).setCell hgp _⟩
 have HX := Aside0.mk hx
 have HC := Aside0.mk hc
 clear hb hb1 hr hx hc
 go_enter Try.func65, Try.ntmps65
 go_upto_region 1 with fail
 generalize (W.alloc (.cells #[.int .i64 t.bs, .int .i64 (-1), .bool false] 125)).setCell ⟨gp, 1, none⟩ (.slice (some ⟨W.heap.size, 0, none⟩) 1 1) = W1 at *
 have k2 : W1.cell? ⟨gp, 2, none⟩ = some (.int .i64 o) := (blk_cell hS.out.blk 2).trans rfl
 have g2 := blk_frozen hS.out.blk 2
 have k3 : W1.cell? ⟨gp, 3, none⟩ = some (.int .i64 em) := (blk_cell hS.out.blk 3).trans rfl
 have g3 := blk_frozen hS.out.blk 3
 have k4 : W1.cell? ⟨gp, 4, none⟩ = some (.int .i64 is) := (blk_cell hS.out.blk 4).trans rfl
 have g4 := blk_frozen hS.out.blk 4
 go_wp2
 go_returns
 have hz := zeros hS.out
 have hbb : Below w.heap.size W (((W1.setCell ⟨gp, 2, none⟩ (.int .i64 0)).setCell ⟨gp, 3, none⟩ (.int .i64 0)).setCell ⟨gp, 4, none⟩ (.int .i64 0)) := ((HB.out.setCell hgp _).setCell hgp _).setCell hgp _
 exact ⟨rfl, ⟨xs, ys, HX.out.high low hbb.block⟩, ⟨HC.out.bel.trans (hbb.mono hlo), Nat.le_trans HC.out.size hbb.size, fun k hk n1 n2 => (hbb.block k hk).trans (HC.out.keep k hk n1 n2)⟩, hlo, low, hgp, _, _, 0, 0, 0, hz, ⟨_, [], rfl, rfl, by simp [isos]⟩, by simp⟩
end Go.Proofs.Yteoonjnmghponaa.F
namespace Go.Proofs.Yteoonjnmghponaa.F
open Go.RowKit Go.Proofs.YteoonjnmghponaaW.PrintWords Go.Proofs.YteoonjnmghponaaW.PrintLast Go.Proofs.YteoonjnmghponaaW.PrintMore
set_option linter.unusedVariables false
set_option linter.unusedSimpArgs false
theorem isos_push (es : List En) (x : En) : isos (es ++ [x]) = isos es + (if x.f2 then 1 else 0) := by
 unfold isos
 rw [List.filter_append]
 cases h : x.f2 <;> simp [h]
theorem Good.push {es : List En} {is : Int} (h : Good es is) (x : En) : Good (es ++ [x]) (is + (if x.f2 then 1 else 0)) := by
 obtain ⟨e0, r, rfl, h1, rfl⟩ := h
 exact ⟨e0, r ++ [x], rfl, h1, (isos_push _ _).symm⟩
theorem Good.push0 {es : List En} {is : Int} {x : En} (h : Good es is) (hx : x.f2 = false) : Good (es ++ [x]) is := by
 have := h.push x
 rw [hx] at this
 simpa using this
section
variable {B : Nat} {t : TP} {w : World} {gp : Nat} {len : Int} {W w9 : World} {v v9 : Value} {es : List En} {o em is : Int} {x : En}
theorem St.ne (hs : St t w.heap.size gp v es o em is W) : some gp ≠ v.ownBlock := fun e => Kd.R_ne hs.row hs.blk (by decide) e
theorem St.blk9 (hs : St t w.heap.size gp v es o em is W) (hg : W.grownBy w9 v.ownBlock) : w9.heap[gp]? = some (.cells #[.pointer (some ⟨t.tp, 0, none⟩), v, .int .i64 o, .int .i64 em, .int .i64 is] 122 (0, 0)) :=
 (hg.block gp (blk_lt hs.blk) hs.ne).trans hs.blk
theorem St.push (hs : St t w.heap.size gp v es o em is W) (hg : W.grownBy w9 v.ownBlock) (ho : kEn.R 125 w9 w.heap.size (fun _ => True) v9 (es ++ [x])) : St t w.heap.size gp v9 (es ++ [x]) o em is (w9.setCell ⟨gp, 1, none⟩ v9) :=
 ⟨blk_put (hs.blk9 hg) 1 _ rfl, Kd.R_set ho (hs.blk9 hg) ne122 1 _⟩
end
set_option maxRecDepth 100000 in
set_option maxHeartbeats 4000000 in
theorem embed_any {B : Nat} {t : TP} {w : World} {gp : Nat} {len : Int} {W : World} (h : Sk B t w gp len W) (hl : len ≤ 50000) (c : Int) :
  Calls Try.prog 66 #[.pointer (some ⟨gp, 0, none⟩), .int .i64 c] W fun e w' => e = .returned (.tuple #[]) ∧ Sk B t w gp (len + 1) w' := by
 have HS := Aside0.mk h
 clear h
 obtain ⟨d1, h1⟩ : ∃ d, (c == 16) = d := ⟨_, rfl⟩
 obtain ⟨d2, h2⟩ : ∃ d, (c == 17) = d := ⟨_, rfl⟩
 obtain ⟨d3, h3⟩ : ∃ d, (c == 15) = d := ⟨_, rfl⟩
 cases d1 <;> cases d2 <;> cases d3
 ·go_enter Try.func66, Try.ntmps66
  go_wp2_with fail
  go_at_call 102
  refine Calls.mono (next_any HS.out (by omega) _) ?_
  rintro e w1 ⟨⟨y, rfl⟩, hb⟩
  have HS1 := Aside0.mk (HS.out.below hb)
  clear hb
  obtain ⟨z, hz⟩ := fits_any HS1.out y
  have HZ := Aside0.mk hz
  obtain ⟨v, es, o, em, is, hs, hgd, hle⟩ := HS1.out.st
  have HT := Aside0.mk hs
  have HG := Aside0.mk hgd
  obtain ⟨Av, cv, rfl, _, _⟩ := Kd.R_reads hs.row
  have c1 : w1.cell? ⟨gp, 1, none⟩ = some (.slice Av es.length cv) := (blk_cell hs.blk 1).trans rfl
  have c2 : w1.cell? ⟨gp, 2, none⟩ = some (.int .i64 o) := (blk_cell hs.blk 2).trans rfl
  have c3 : w1.cell? ⟨gp, 3, none⟩ = some (.int .i64 em) := (blk_cell hs.blk 3).trans rfl
  have g3 := blk_frozen hs.blk 3
  clear hz hs hgd
  cases z
  ·obtain ⟨d4, h4⟩ : ∃ d, (o == 0) = d := ⟨_, rfl⟩
   cases d4
   ·go_wp2_with (go_at_call 103; ((with_reducible refine HZ.out.mono ?_); rintro e w2 ⟨rfl, q2, rfl⟩))
    go_returns
    exact ⟨rfl, (HS1.out.drewN _).mono (by omega)⟩
   ·go_wp2_with (go_at_call 103; ((with_reducible refine HZ.out.mono ?_); rintro e w2 ⟨rfl, q2, rfl⟩))
    go_returns
    exact ⟨rfl, (HS1.out.drewN _).own ((Below.refl _ _).setCell HS1.out.hgp _) ((HT.out.below (pw_below_drewN (Below.refl _ _) _)).put3) HG.out (by omega)⟩
  ·go_wp2_with (first | (go_at_call 103; ((with_reducible refine HZ.out.mono ?_); rintro e w2 ⟨rfl, q2, rfl⟩); have HT2 := Aside0.mk (HT.out.below (pw_below_drewN (Below.refl _ _) q2)); have HS2 := Aside0.mk (HS1.out.drewN q2)) | ((with_reducible refine gate_builtin (b := .append) (xs := #[.tmp 26, .tmp 30]) rfl ?_); at_builtin; refine Kd.R_append kEn (w0 := w1.drewN q2) w.heap.size rfl (.tmp 26) (.tmp 30) 120 125 (.agg #[(.int .i64 0), (.int .i64 0), (.bool false)]) 24 rfl Try.underlying120 infoEn rfl (by decide) (by omega) _ es (⟨y, -1, false⟩ : En) [.int .i64 y, .int .i64 (-1), .bool false] (fun _ => True) (fun _ => False) rfl rfl ?aP (fun _ hk => hk.elim) ?aF ?aO ?aB ?aS ?aL ?_; (case aP => exact kEn_mkM _ _ _ (⟨y, -1, false⟩ : En)); (case aB => exact Below.refl _ _); (case aF => exact (fun _ _ => trivial)); (case aO => exact HT2.out.row); (case aS => exact Nat.le_trans HS2.out.ch.size (Nat.le_refl _)); (case aL => omega); intro v9 w9 ho hb hg hat; obtain ⟨A9, c9, rfl⟩ := Kd.R_slice ho; have hh := HT2.out.push hg ho; rw [List.length_append] at hh; have HP9 := Aside0.mk hh; have HB9 := Aside0.mk hb; have k9 : w9.cell? ⟨gp, 1, none⟩ = some _ := (blk_cell (HT2.out.blk9 hg) 1).trans rfl; have g9 := blk_frozen (HT2.out.blk9 hg) 1; clear ho hb hg hat hh))
   go_returns
   exact ⟨rfl, HS2.out.own (HB9.out.setCell HS1.out.hgp _) HP9.out (HG.out.push0 rfl) (by simp; omega)⟩
 ·go_enter Try.func66, Try.ntmps66
  go_wp2_with fail
  go_at_call 102
  refine Calls.mono (next_any HS.out (by omega) _) ?_
  rintro e w1 ⟨⟨y, rfl⟩, hb⟩
  have HS1 := Aside0.mk (HS.out.below hb)
  clear hb
  obtain ⟨z, hz⟩ := fits_any HS1.out y
  have HZ := Aside0.mk hz
  obtain ⟨v, es, o, em, is, hs, hgd, hle⟩ := HS1.out.st
  have HT := Aside0.mk hs
  have HG := Aside0.mk hgd
  obtain ⟨Av, cv, rfl, _, _⟩ := Kd.R_reads hs.row
  have c1 : w1.cell? ⟨gp, 1, none⟩ = some (.slice Av es.length cv) := (blk_cell hs.blk 1).trans rfl
  have c2 : w1.cell? ⟨gp, 2, none⟩ = some (.int .i64 o) := (blk_cell hs.blk 2).trans rfl
  have c3 : w1.cell? ⟨gp, 3, none⟩ = some (.int .i64 em) := (blk_cell hs.blk 3).trans rfl
  have g3 := blk_frozen hs.blk 3
  clear hz hs hgd
  cases z
  ·obtain ⟨d4, h4⟩ : ∃ d, (o == 0) = d := ⟨_, rfl⟩
   cases d4
   ·go_wp2_with (go_at_call 103; ((with_reducible refine HZ.out.mono ?_); rintro e w2 ⟨rfl, q2, rfl⟩))
    go_returns
    exact ⟨rfl, (HS1.out.drewN _).mono (by omega)⟩
   ·go_wp2_with (go_at_call 103; ((with_reducible refine HZ.out.mono ?_); rintro e w2 ⟨rfl, q2, rfl⟩))
    go_returns
    exact ⟨rfl, (HS1.out.drewN _).own ((Below.refl _ _).setCell HS1.out.hgp _) ((HT.out.below (pw_below_drewN (Below.refl _ _) _)).put3) HG.out (by omega)⟩
  ·go_wp2_with (first | (go_at_call 103; ((with_reducible refine HZ.out.mono ?_); rintro e w2 ⟨rfl, q2, rfl⟩); have HT2 := Aside0.mk (HT.out.below (pw_below_drewN (Below.refl _ _) q2)); have HS2 := Aside0.mk (HS1.out.drewN q2)) | ((with_reducible refine gate_builtin (b := .append) (xs := #[.tmp 26, .tmp 30]) rfl ?_); at_builtin; refine Kd.R_append kEn (w0 := w1.drewN q2) w.heap.size rfl (.tmp 26) (.tmp 30) 120 125 (.agg #[(.int .i64 0), (.int .i64 0), (.bool false)]) 24 rfl Try.underlying120 infoEn rfl (by decide) (by omega) _ es (⟨y, 0, false⟩ : En) [.int .i64 y, .int .i64 (0), .bool false] (fun _ => True) (fun _ => False) rfl rfl ?aP (fun _ hk => hk.elim) ?aF ?aO ?aB ?aS ?aL ?_; (case aP => exact kEn_mkM _ _ _ (⟨y, 0, false⟩ : En)); (case aB => exact Below.refl _ _); (case aF => exact (fun _ _ => trivial)); (case aO => exact HT2.out.row); (case aS => exact Nat.le_trans HS2.out.ch.size (Nat.le_refl _)); (case aL => omega); intro v9 w9 ho hb hg hat; obtain ⟨A9, c9, rfl⟩ := Kd.R_slice ho; have hh := HT2.out.push hg ho; rw [List.length_append] at hh; have HP9 := Aside0.mk hh; have HB9 := Aside0.mk hb; have k9 : w9.cell? ⟨gp, 1, none⟩ = some _ := (blk_cell (HT2.out.blk9 hg) 1).trans rfl; have g9 := blk_frozen (HT2.out.blk9 hg) 1; clear ho hb hg hat hh))
   go_returns
   exact ⟨rfl, HS2.out.own (HB9.out.setCell HS1.out.hgp _) HP9.out (HG.out.push0 rfl) (by simp; omega)⟩
 ·go_enter Try.func66, Try.ntmps66
  go_wp2_with fail
  go_at_call 102
  refine Calls.mono (next_any HS.out (by omega) _) ?_
  rintro e w1 ⟨⟨y, rfl⟩, hb⟩
  have HS1 := Aside0.mk (HS.out.below hb)
  clear hb
  obtain ⟨z, hz⟩ := fits_any HS1.out y
  have HZ := Aside0.mk hz
  obtain ⟨v, es, o, em, is, hs, hgd, hle⟩ := HS1.out.st
  have HT := Aside0.mk hs
  have HG := Aside0.mk hgd
  obtain ⟨Av, cv, rfl, _, _⟩ := Kd.R_reads hs.row
  have c1 : w1.cell? ⟨gp, 1, none⟩ = some (.slice Av es.length cv) := (blk_cell hs.blk 1).trans rfl
  have c2 : w1.cell? ⟨gp, 2, none⟩ = some (.int .i64 o) := (blk_cell hs.blk 2).trans rfl
  have c3 : w1.cell? ⟨gp, 3, none⟩ = some (.int .i64 em) := (blk_cell hs.blk 3).trans rfl
  have g3 := blk_frozen hs.blk 3
  clear hz hs hgd
  cases z
  ·obtain ⟨d4, h4⟩ : ∃ d, (o == 0) = d := ⟨_, rfl⟩
   cases d4
   ·go_wp2_with (go_at_call 103; ((with_reducible refine HZ.out.mono ?_); rintro e w2 ⟨rfl, q2, rfl⟩))
    go_returns
    exact ⟨rfl, (HS1.out.drewN _).mono (by omega)⟩
   ·go_wp2_with (go_at_call 103; ((with_reducible refine HZ.out.mono ?_); rintro e w2 ⟨rfl, q2, rfl⟩))
    go_returns
    exact ⟨rfl, (HS1.out.drewN _).own ((Below.refl _ _).setCell HS1.out.hgp _) ((HT.out.below (pw_below_drewN (Below.refl _ _) _)).put3) HG.out (by omega)⟩
  ·go_wp2_with (first | (go_at_call 103; ((with_reducible refine HZ.out.mono ?_); rintro e w2 ⟨rfl, q2, rfl⟩); have HT2 := Aside0.mk (HT.out.below (pw_below_drewN (Below.refl _ _) q2)); have HS2 := Aside0.mk (HS1.out.drewN q2)) | ((with_reducible refine gate_builtin (b := .append) (xs := #[.tmp 26, .tmp 30]) rfl ?_); at_builtin; refine Kd.R_append kEn (w0 := w1.drewN q2) w.heap.size rfl (.tmp 26) (.tmp 30) 120 125 (.agg #[(.int .i64 0), (.int .i64 0), (.bool false)]) 24 rfl Try.underlying120 infoEn rfl (by decide) (by omega) _ es (⟨y, 1, false⟩ : En) [.int .i64 y, .int .i64 (1), .bool false] (fun _ => True) (fun _ => False) rfl rfl ?aP (fun _ hk => hk.elim) ?aF ?aO ?aB ?aS ?aL ?_; (case aP => exact kEn_mkM _ _ _ (⟨y, 1, false⟩ : En)); (case aB => exact Below.refl _ _); (case aF => exact (fun _ _ => trivial)); (case aO => exact HT2.out.row); (case aS => exact Nat.le_trans HS2.out.ch.size (Nat.le_refl _)); (case aL => omega); intro v9 w9 ho hb hg hat; obtain ⟨A9, c9, rfl⟩ := Kd.R_slice ho; have hh := HT2.out.push hg ho; rw [List.length_append] at hh; have HP9 := Aside0.mk hh; have HB9 := Aside0.mk hb; have k9 : w9.cell? ⟨gp, 1, none⟩ = some _ := (blk_cell (HT2.out.blk9 hg) 1).trans rfl; have g9 := blk_frozen (HT2.out.blk9 hg) 1; clear ho hb hg hat hh))
   go_returns
   exact ⟨rfl, HS2.out.own (HB9.out.setCell HS1.out.hgp _) HP9.out (HG.out.push0 rfl) (by simp; omega)⟩
 ·go_enter Try.func66, Try.ntmps66
  go_wp2_with fail
  go_at_call 102
  refine Calls.mono (next_any HS.out (by omega) _) ?_
  rintro e w1 ⟨⟨y, rfl⟩, hb⟩
  have HS1 := Aside0.mk (HS.out.below hb)
  clear hb
  obtain ⟨z, hz⟩ := fits_any HS1.out y
  have HZ := Aside0.mk hz
  obtain ⟨v, es, o, em, is, hs, hgd, hle⟩ := HS1.out.st
  have HT := Aside0.mk hs
  have HG := Aside0.mk hgd
  obtain ⟨Av, cv, rfl, _, _⟩ := Kd.R_reads hs.row
  have c1 : w1.cell? ⟨gp, 1, none⟩ = some (.slice Av es.length cv) := (blk_cell hs.blk 1).trans rfl
  have c2 : w1.cell? ⟨gp, 2, none⟩ = some (.int .i64 o) := (blk_cell hs.blk 2).trans rfl
  have c3 : w1.cell? ⟨gp, 3, none⟩ = some (.int .i64 em) := (blk_cell hs.blk 3).trans rfl
  have g3 := blk_frozen hs.blk 3
  clear hz hs hgd
  cases z
  ·obtain ⟨d4, h4⟩ : ∃ d, (o == 0) = d := ⟨_, rfl⟩
   cases d4
   ·go_wp2_with (go_at_call 103; ((with_reducible refine HZ.out.mono ?_); rintro e w2 ⟨rfl, q2, rfl⟩))
    go_returns
    exact ⟨rfl, (HS1.out.drewN _).mono (by omega)⟩
   ·go_wp2_with (go_at_call 103; ((with_reducible refine HZ.out.mono ?_); rintro e w2 ⟨rfl, q2, rfl⟩))
    go_returns
    exact ⟨rfl, (HS1.out.drewN _).own ((Below.refl _ _).setCell HS1.out.hgp _) ((HT.out.below (pw_below_drewN (Below.refl _ _) _)).put3) HG.out (by omega)⟩
  ·go_wp2_with (first | (go_at_call 103; ((with_reducible refine HZ.out.mono ?_); rintro e w2 ⟨rfl, q2, rfl⟩); have HT2 := Aside0.mk (HT.out.below (pw_below_drewN (Below.refl _ _) q2)); have HS2 := Aside0.mk (HS1.out.drewN q2)) | ((with_reducible refine gate_builtin (b := .append) (xs := #[.tmp 26, .tmp 30]) rfl ?_); at_builtin; refine Kd.R_append kEn (w0 := w1.drewN q2) w.heap.size rfl (.tmp 26) (.tmp 30) 120 125 (.agg #[(.int .i64 0), (.int .i64 0), (.bool false)]) 24 rfl Try.underlying120 infoEn rfl (by decide) (by omega) _ es (⟨y, 1, false⟩ : En) [.int .i64 y, .int .i64 (1), .bool false] (fun _ => True) (fun _ => False) rfl rfl ?aP (fun _ hk => hk.elim) ?aF ?aO ?aB ?aS ?aL ?_; (case aP => exact kEn_mkM _ _ _ (⟨y, 1, false⟩ : En)); (case aB => exact Below.refl _ _); (case aF => exact (fun _ _ => trivial)); (case aO => exact HT2.out.row); (case aS => exact Nat.le_trans HS2.out.ch.size (Nat.le_refl _)); (case aL => omega); intro v9 w9 ho hb hg hat; obtain ⟨A9, c9, rfl⟩ := Kd.R_slice ho; have hh := HT2.out.push hg ho; rw [List.length_append] at hh; have HP9 := Aside0.mk hh; have HB9 := Aside0.mk hb; have k9 : w9.cell? ⟨gp, 1, none⟩ = some _ := (blk_cell (HT2.out.blk9 hg) 1).trans rfl; have g9 := blk_frozen (HT2.out.blk9 hg) 1; clear ho hb hg hat hh))
   go_returns
   exact ⟨rfl, HS2.out.own (HB9.out.setCell HS1.out.hgp _) HP9.out (HG.out.push0 rfl) (by simp; omega)⟩
 ·go_enter Try.func66, Try.ntmps66
  go_wp2_with fail
  go_at_call 102
  refine Calls.mono (next_any HS.out (by omega) _) ?_
  rintro e w1 ⟨⟨y, rfl⟩, hb⟩
  have HS1 := Aside0.mk (HS.out.below hb)
  clear hb
  obtain ⟨z, hz⟩ := fits_any HS1.out y
  have HZ := Aside0.mk hz
  obtain ⟨v, es, o, em, is, hs, hgd, hle⟩ := HS1.out.st
  have HT := Aside0.mk hs
  have HG := Aside0.mk hgd
  obtain ⟨Av, cv, rfl, _, _⟩ := Kd.R_reads hs.row
  have c1 : w1.cell? ⟨gp, 1, none⟩ = some (.slice Av es.length cv) := (blk_cell hs.blk 1).trans rfl
  have c2 : w1.cell? ⟨gp, 2, none⟩ = some (.int .i64 o) := (blk_cell hs.blk 2).trans rfl
  have c3 : w1.cell? ⟨gp, 3, none⟩ = some (.int .i64 em) := (blk_cell hs.blk 3).trans rfl
  have g3 := blk_frozen hs.blk 3
  clear hz hs hgd
  cases z
  ·obtain ⟨d4, h4⟩ : ∃ d, (o == 0) = d := ⟨_, rfl⟩
   cases d4
   ·go_wp2_with (go_at_call 103; ((with_reducible refine HZ.out.mono ?_); rintro e w2 ⟨rfl, q2, rfl⟩))
    go_returns
    exact ⟨rfl, (HS1.out.drewN _).mono (by omega)⟩
   ·go_wp2_with (go_at_call 103; ((with_reducible refine HZ.out.mono ?_); rintro e w2 ⟨rfl, q2, rfl⟩))
    go_returns
    exact ⟨rfl, (HS1.out.drewN _).own ((Below.refl _ _).setCell HS1.out.hgp _) ((HT.out.below (pw_below_drewN (Below.refl _ _) _)).put3) HG.out (by omega)⟩
  ·go_wp2_with (first | (go_at_call 103; ((with_reducible refine HZ.out.mono ?_); rintro e w2 ⟨rfl, q2, rfl⟩); have HT2 := Aside0.mk (HT.out.below (pw_below_drewN (Below.refl _ _) q2)); have HS2 := Aside0.mk (HS1.out.drewN q2)) | ((with_reducible refine gate_builtin (b := .append) (xs := #[.tmp 26, .tmp 30]) rfl ?_); at_builtin; refine Kd.R_append kEn (w0 := w1.drewN q2) w.heap.size rfl (.tmp 26) (.tmp 30) 120 125 (.agg #[(.int .i64 0), (.int .i64 0), (.bool false)]) 24 rfl Try.underlying120 infoEn rfl (by decide) (by omega) _ es (⟨y, -1, false⟩ : En) [.int .i64 y, .int .i64 (-1), .bool false] (fun _ => True) (fun _ => False) rfl rfl ?aP (fun _ hk => hk.elim) ?aF ?aO ?aB ?aS ?aL ?_; (case aP => exact kEn_mkM _ _ _ (⟨y, -1, false⟩ : En)); (case aB => exact Below.refl _ _); (case aF => exact (fun _ _ => trivial)); (case aO => exact HT2.out.row); (case aS => exact Nat.le_trans HS2.out.ch.size (Nat.le_refl _)); (case aL => omega); intro v9 w9 ho hb hg hat; obtain ⟨A9, c9, rfl⟩ := Kd.R_slice ho; have hh := HT2.out.push hg ho; rw [List.length_append] at hh; have HP9 := Aside0.mk hh; have HB9 := Aside0.mk hb; have k9 : w9.cell? ⟨gp, 1, none⟩ = some _ := (blk_cell (HT2.out.blk9 hg) 1).trans rfl; have g9 := blk_frozen (HT2.out.blk9 hg) 1; clear ho hb hg hat hh))
   go_returns
   exact ⟨rfl, HS2.out.own (HB9.out.setCell HS1.out.hgp _) HP9.out (HG.out.push0 rfl) (by simp; omega)⟩
 ·go_enter Try.func66, Try.ntmps66
  go_wp2_with fail
  go_at_call 102
  refine Calls.mono (next_any HS.out (by omega) _) ?_
  rintro e w1 ⟨⟨y, rfl⟩, hb⟩
  have HS1 := Aside0.mk (HS.out.below hb)
  clear hb
  obtain ⟨z, hz⟩ := fits_any HS1.out y
  have HZ := Aside0.mk hz
  obtain ⟨v, es, o, em, is, hs, hgd, hle⟩ := HS1.out.st
  have HT := Aside0.mk hs
  have HG := Aside0.mk hgd
  obtain ⟨Av, cv, rfl, _, _⟩ := Kd.R_reads hs.row
  have c1 : w1.cell? ⟨gp, 1, none⟩ = some (.slice Av es.length cv) := (blk_cell hs.blk 1).trans rfl
  have c2 : w1.cell? ⟨gp, 2, none⟩ = some (.int .i64 o) := (blk_cell hs.blk 2).trans rfl
  have c3 : w1.cell? ⟨gp, 3, none⟩ = some (.int .i64 em) := (blk_cell hs.blk 3).trans rfl
  have g3 := blk_frozen hs.blk 3
  clear hz hs hgd
  cases z
  ·obtain ⟨d4, h4⟩ : ∃ d, (o == 0) = d := ⟨_, rfl⟩
   cases d4
   ·go_wp2_with (go_at_call 103; ((with_reducible refine HZ.out.mono ?_); rintro e w2 ⟨rfl, q2, rfl⟩))
    go_returns
    exact ⟨rfl, (HS1.out.drewN _).mono (by omega)⟩
   ·go_wp2_with (go_at_call 103; ((with_reducible refine HZ.out.mono ?_); rintro e w2 ⟨rfl, q2, rfl⟩))
    go_returns
    exact ⟨rfl, (HS1.out.drewN _).own ((Below.refl _ _).setCell HS1.out.hgp _) ((HT.out.below (pw_below_drewN (Below.refl _ _) _)).put3) HG.out (by omega)⟩
  ·go_wp2_with (first | (go_at_call 103; ((with_reducible refine HZ.out.mono ?_); rintro e w2 ⟨rfl, q2, rfl⟩); have HT2 := Aside0.mk (HT.out.below (pw_below_drewN (Below.refl _ _) q2)); have HS2 := Aside0.mk (HS1.out.drewN q2)) | ((with_reducible refine gate_builtin (b := .append) (xs := #[.tmp 26, .tmp 30]) rfl ?_); at_builtin; refine Kd.R_append kEn (w0 := w1.drewN q2) w.heap.size rfl (.tmp 26) (.tmp 30) 120 125 (.agg #[(.int .i64 0), (.int .i64 0), (.bool false)]) 24 rfl Try.underlying120 infoEn rfl (by decide) (by omega) _ es (⟨y, 0, false⟩ : En) [.int .i64 y, .int .i64 (0), .bool false] (fun _ => True) (fun _ => False) rfl rfl ?aP (fun _ hk => hk.elim) ?aF ?aO ?aB ?aS ?aL ?_; (case aP => exact kEn_mkM _ _ _ (⟨y, 0, false⟩ : En)); (case aB => exact Below.refl _ _); (case aF => exact (fun _ _ => trivial)); (case aO => exact HT2.out.row); (case aS => exact Nat.le_trans HS2.out.ch.size (Nat.le_refl _)); (case aL => omega); intro v9 w9 ho hb hg hat; obtain ⟨A9, c9, rfl⟩ := Kd.R_slice ho; have hh := HT2.out.push hg ho; rw [List.length_append] at hh; have HP9 := Aside0.mk hh; have HB9 := Aside0.mk hb; have k9 : w9.cell? ⟨gp, 1, none⟩ = some _ := (blk_cell (HT2.out.blk9 hg) 1).trans rfl; have g9 := blk_frozen (HT2.out.blk9 hg) 1; clear ho hb hg hat hh))
   go_returns
   exact ⟨rfl, HS2.out.own (HB9.out.setCell HS1.out.hgp _) HP9.out (HG.out.push0 rfl) (by simp; omega)⟩
 ·go_enter Try.func66, Try.ntmps66
  go_wp2_with fail
  go_at_call 102
  refine Calls.mono (next_any HS.out (by omega) _) ?_
  rintro e w1 ⟨⟨y, rfl⟩, hb⟩
  have HS1 := Aside0.mk (HS.out.below hb)
  clear hb
  obtain ⟨z, hz⟩ := fits_any HS1.out y
  have HZ := Aside0.mk hz
  obtain ⟨v, es, o, em, is, hs, hgd, hle⟩ := HS1.out.st
  have HT := Aside0.mk hs
  have HG := Aside0.mk hgd
  obtain ⟨Av, cv, rfl, _, _⟩ := Kd.R_reads hs.row
  have c1 : w1.cell? ⟨gp, 1, none⟩ = some (.slice Av es.length cv) := (blk_cell hs.blk 1).trans rfl
  have c2 : w1.cell? ⟨gp, 2, none⟩ = some (.int .i64 o) := (blk_cell hs.blk 2).trans rfl
  have c3 : w1.cell? ⟨gp, 3, none⟩ = some (.int .i64 em) := (blk_cell hs.blk 3).trans rfl
  have g3 := blk_frozen hs.blk 3
  clear hz hs hgd
  cases z
  ·obtain ⟨d4, h4⟩ : ∃ d, (o == 0) = d := ⟨_, rfl⟩
   cases d4
   ·go_wp2_with (go_at_call 103; ((with_reducible refine HZ.out.mono ?_); rintro e w2 ⟨rfl, q2, rfl⟩))
    go_returns
    exact ⟨rfl, (HS1.out.drewN _).mono (by omega)⟩
   ·go_wp2_with (go_at_call 103; ((with_reducible refine HZ.out.mono ?_); rintro e w2 ⟨rfl, q2, rfl⟩))
    go_returns
    exact ⟨rfl, (HS1.out.drewN _).own ((Below.refl _ _).setCell HS1.out.hgp _) ((HT.out.below (pw_below_drewN (Below.refl _ _) _)).put3) HG.out (by omega)⟩
  ·go_wp2_with (first | (go_at_call 103; ((with_reducible refine HZ.out.mono ?_); rintro e w2 ⟨rfl, q2, rfl⟩); have HT2 := Aside0.mk (HT.out.below (pw_below_drewN (Below.refl _ _) q2)); have HS2 := Aside0.mk (HS1.out.drewN q2)) | ((with_reducible refine gate_builtin (b := .append) (xs := #[.tmp 26, .tmp 30]) rfl ?_); at_builtin; refine Kd.R_append kEn (w0 := w1.drewN q2) w.heap.size rfl (.tmp 26) (.tmp 30) 120 125 (.agg #[(.int .i64 0), (.int .i64 0), (.bool false)]) 24 rfl Try.underlying120 infoEn rfl (by decide) (by omega) _ es (⟨y, 1, false⟩ : En) [.int .i64 y, .int .i64 (1), .bool false] (fun _ => True) (fun _ => False) rfl rfl ?aP (fun _ hk => hk.elim) ?aF ?aO ?aB ?aS ?aL ?_; (case aP => exact kEn_mkM _ _ _ (⟨y, 1, false⟩ : En)); (case aB => exact Below.refl _ _); (case aF => exact (fun _ _ => trivial)); (case aO => exact HT2.out.row); (case aS => exact Nat.le_trans HS2.out.ch.size (Nat.le_refl _)); (case aL => omega); intro v9 w9 ho hb hg hat; obtain ⟨A9, c9, rfl⟩ := Kd.R_slice ho; have hh := HT2.out.push hg ho; rw [List.length_append] at hh; have HP9 := Aside0.mk hh; have HB9 := Aside0.mk hb; have k9 : w9.cell? ⟨gp, 1, none⟩ = some _ := (blk_cell (HT2.out.blk9 hg) 1).trans rfl; have g9 := blk_frozen (HT2.out.blk9 hg) 1; clear ho hb hg hat hh))
   go_returns
   exact ⟨rfl, HS2.out.own (HB9.out.setCell HS1.out.hgp _) HP9.out (HG.out.push0 rfl) (by simp; omega)⟩
 ·go_enter Try.func66, Try.ntmps66
  go_wp2_with fail
  go_at_call 102
  refine Calls.mono (next_any HS.out (by omega) _) ?_
  rintro e w1 ⟨⟨y, rfl⟩, hb⟩
  have HS1 := Aside0.mk (HS.out.below hb)
  clear hb
  obtain ⟨z, hz⟩ := fits_any HS1.out y
  have HZ := Aside0.mk hz
  obtain ⟨v, es, o, em, is, hs, hgd, hle⟩ := HS1.out.st
  have HT := Aside0.mk hs
  have HG := Aside0.mk hgd
  obtain ⟨Av, cv, rfl, _, _⟩ := Kd.R_reads hs.row
  have c1 : w1.cell? ⟨gp, 1, none⟩ = some (.slice Av es.length cv) := (blk_cell hs.blk 1).trans rfl
  have c2 : w1.cell? ⟨gp, 2, none⟩ = some (.int .i64 o) := (blk_cell hs.blk 2).trans rfl
  have c3 : w1.cell? ⟨gp, 3, none⟩ = some (.int .i64 em) := (blk_cell hs.blk 3).trans rfl
  have g3 := blk_frozen hs.blk 3
  clear hz hs hgd
  cases z
  ·obtain ⟨d4, h4⟩ : ∃ d, (o == 0) = d := ⟨_, rfl⟩
   cases d4
   ·go_wp2_with (go_at_call 103; ((with_reducible refine HZ.out.mono ?_); rintro e w2 ⟨rfl, q2, rfl⟩))
    go_returns
    exact ⟨rfl, (HS1.out.drewN _).mono (by omega)⟩
   ·go_wp2_with (go_at_call 103; ((with_reducible refine HZ.out.mono ?_); rintro e w2 ⟨rfl, q2, rfl⟩))
    go_returns
    exact ⟨rfl, (HS1.out.drewN _).own ((Below.refl _ _).setCell HS1.out.hgp _) ((HT.out.below (pw_below_drewN (Below.refl _ _) _)).put3) HG.out (by omega)⟩
  ·go_wp2_with (first | (go_at_call 103; ((with_reducible refine HZ.out.mono ?_); rintro e w2 ⟨rfl, q2, rfl⟩); have HT2 := Aside0.mk (HT.out.below (pw_below_drewN (Below.refl _ _) q2)); have HS2 := Aside0.mk (HS1.out.drewN q2)) | ((with_reducible refine gate_builtin (b := .append) (xs := #[.tmp 26, .tmp 30]) rfl ?_); at_builtin; refine Kd.R_append kEn (w0 := w1.drewN q2) w.heap.size rfl (.tmp 26) (.tmp 30) 120 125 (.agg #[(.int .i64 0), (.int .i64 0), (.bool false)]) 24 rfl Try.underlying120 infoEn rfl (by decide) (by omega) _ es (⟨y, 1, false⟩ : En) [.int .i64 y, .int .i64 (1), .bool false] (fun _ => True) (fun _ => False) rfl rfl ?aP (fun _ hk => hk.elim) ?aF ?aO ?aB ?aS ?aL ?_; (case aP => exact kEn_mkM _ _ _ (⟨y, 1, false⟩ : En)); (case aB => exact Below.refl _ _); (case aF => exact (fun _ _ => trivial)); (case aO => exact HT2.out.row); (case aS => exact Nat.le_trans HS2.out.ch.size (Nat.le_refl _)); (case aL => omega); intro v9 w9 ho hb hg hat; obtain ⟨A9, c9, rfl⟩ := Kd.R_slice ho; have hh := HT2.out.push hg ho; rw [List.length_append] at hh; have HP9 := Aside0.mk hh; have HB9 := Aside0.mk hb; have k9 : w9.cell? ⟨gp, 1, none⟩ = some _ := (blk_cell (HT2.out.blk9 hg) 1).trans rfl; have g9 := blk_frozen (HT2.out.blk9 hg) 1; clear ho hb hg hat hh))
   go_returns
   exact ⟨rfl, HS2.out.own (HB9.out.setCell HS1.out.hgp _) HP9.out (HG.out.push0 rfl) (by simp; omega)⟩
end Go.Proofs.Yteoonjnmghponaa.F
namespace Go.Proofs.Yteoonjnmghponaa.F
open Go.RowKit Go.Proofs.YteoonjnmghponaaW.PrintWords Go.Proofs.YteoonjnmghponaaW.PrintLast Go.Proofs.YteoonjnmghponaaW.PrintMore
set_option linter.unusedVariables false
set_option linter.unusedSimpArgs false
/-- What a text's matches are good for. -/
structure TG (t : TP) : Prop where
  n : t.n ≤ 16384
  cf : t.cs.length ≤ t.cf
  cm : t.ms.length ≤ t.cm
  ok : ∀ i : Int, 0 ≤ i → i < t.n → P.bidi_opener.f (rd t.cs i) = some true → rd t.ms i < 0 ∨ i < rd t.ms i
  up : ∀ i : Int, 0 ≤ i → i < t.n → rd t.ms i < t.n
theorem opener_some (c : Int) : ∃ b, P.bidi_opener.f c = some b := by
  unfold P.bidi_opener.f
  repeat' split
  all_goals exact ⟨_, rfl⟩
theorem w64 {x : Int} (h0 : -9223372036854775808 ≤ x) (h1 : x ≤ 9223372036854775807) : wrap64 x = x := IntWalk.wrap64_in x ⟨h0, h1⟩
theorem base_some {cs ms : List Int} {n : Nat} (hn : n ≤ 16384) (hc : cs.length = n) (hm : ms.length = n) (ok : ∀ i : Int, 0 ≤ i → i < n → P.bidi_opener.f (rd cs i) = some true → rd ms i < 0 ∨ i < rd ms i) (up : ∀ i : Int, 0 ≤ i → i < n → rd ms i < n) (tt : Int) (ht : tt ≤ n) :
    ∀ (m : Nat) (x : Int), 0 ≤ x → tt - x ≤ m → ∃ r, P.bidi_base.l0 (2 * m + 1) cs ms tt x = some r := by
  intro m
  induction m with
  | zero =>
    intro x hx hm'
    refine ⟨0, ?_⟩
    show P.bidi_base.l0 1 cs ms tt x = _
    unfold P.bidi_base.l0
    rw [if_neg (by omega)]
  | succ m ih =>
    intro x hx hm'
    show ∃ r, P.bidi_base.l0 (2 * m + 1 + 1 + 1) cs ms tt x = some r
    unfold P.bidi_base.l0
    by_cases h1 : x < tt
    · rw [if_pos h1, if_pos hx, if_pos (by omega)]
      have hj : ∀ b, ∃ r, P.bidi_base.j1 (2 * m + 1 + 1) cs ms tt x (rd cs x) b = some r := by
        intro b
        unfold P.bidi_base.j1
        cases b
        · rw [if_neg (by decide)]
          by_cases h10 : rd cs x = 10
          · rw [if_pos h10]; exact ⟨_, rfl⟩
          · rw [if_neg h10]
            obtain ⟨z, hz⟩ := opener_some (rd cs x)
            rw [hz, Option.bind_some]
            cases z
            · rw [if_neg (by decide), w64 (by omega) (by omega)]
              exact ih (x + 1) (by omega) (by omega)
            · rw [if_pos rfl, if_pos hx, if_pos (by omega)]
              have ho := ok x hx (by omega) hz
              have hu := up x hx (by omega)
              by_cases hneg : rd ms x < 0
              · rw [if_pos hneg]; exact ⟨_, rfl⟩
              · rw [if_neg hneg, w64 (by omega) (by omega)]
                exact ih (rd ms x + 1) (by omega) (by omega)
        · rw [if_pos rfl]; exact ⟨_, rfl⟩
      by_cases h2 : rd cs x = 0
      · rw [if_pos h2]; exact ⟨_, rfl⟩
      · rw [if_neg h2]
        by_cases h3 : rd cs x = 1
        · rw [if_pos h3]; exact hj true
        · rw [if_neg h3]; exact hj _
    · rw [if_neg h1]; exact ⟨_, rfl⟩
theorem base_any {t : TP} {B : Nat} {xs ys : List Int} {W : World} (hx : Tx B t xs ys W) (hg : TG t) (a b : Int) (h0 : 0 ≤ a) (h1 : b ≤ t.n) :
    ∃ r : Int, ∀ q, Calls Try.prog 31 #[.slice t.Af t.cs.length t.cf, .slice t.Am t.ms.length t.cm, .int .i64 a, .int .i64 b] (W.drewN q) fun e w' => e = .returned (.int .i64 r) ∧ ∃ m, w' = (W.drewN q).drewN m := by
  have hl := hx.lens
  obtain ⟨r, hr⟩ := base_some hg.n hl.2.1 hl.2.2.1 hg.ok hg.up b h1 (b - a).toNat a h0 (by omega)
  refine ⟨r, fun q => ?_⟩
  have hxq := hx.below (pw_below_drewN (Below.refl _ _) q)
  exact (P.bidi_base.calls _ t.Af t.cf t.cs t.Am t.cm t.ms a b r (W.drewN q) hxq.rf hg.cf hxq.rm hg.cm hr).mono fun e w' ⟨he, hw⟩ => ⟨he, hw.out⟩
theorem Good.nonneg {es : List En} {is : Int} (h : Good es is) : 0 ≤ is := by
  obtain ⟨_, _, _, _, rfl⟩ := h
  exact Int.natCast_nonneg _
theorem Good.le {es : List En} {is : Int} (h : Good es is) : is ≤ es.length := by
  obtain ⟨_, _, _, _, rfl⟩ := h
  exact Int.ofNat_le.mpr (List.length_filter_le _ _)
theorem Good.push1 {es : List En} {is : Int} {x : En} (h : Good es is) (hx : x.f2 = true) : Good (es ++ [x]) (is + 1) := by
  have := h.push x
  rw [hx] at this
  simpa using this
set_option maxRecDepth 100000 in
set_option maxHeartbeats 4000000 in
theorem open_any {B : Nat} {t : TP} {w : World} {gp : Nat} {len : Int} {W : World} (h : Sk B t w gp len W) (hl : len ≤ 49999) (hg : TG t) (i c : Int) (h0 : 0 ≤ i) (h1 : i < t.n) :
    Calls Try.prog 67 #[.pointer (some ⟨gp, 0, none⟩), .int .i64 i, .int .i64 c] W fun e w' => e = .returned (.tuple #[]) ∧ Sk B t w gp (len + 1) w' := by
  have HS := Aside0.mk h
  have HTG := Aside0.mk hg
  have hn := hg.n
  clear h hg
  obtain ⟨d1, e1⟩ : ∃ d, (c == 20) = d := ⟨_, rfl⟩
  obtain ⟨d2, e2⟩ : ∃ d, (c == 21) = d := ⟨_, rfl⟩
  go_enter Try.func67, Try.ntmps67
  go_wp2_with fail
  go_at_call 70
  refine Calls.mono (plain_any HS.out (by omega) i h0 h1 hn) ?_
  rintro e w1 ⟨rfl, hs1⟩
  have HS1 := Aside0.mk hs1
  obtain ⟨xs, ys, hx⟩ := hs1.tx
  obtain ⟨v0, es0, o0, em0, is0, hs0, _⟩ := hs1.st
  have hcs : t.cs.length = t.n := hx.lens.2.1
  have hms : t.ms.length = t.n := hx.lens.2.2.1
  obtain ⟨am, ham, hmi⟩ := Kd.at_int hx.rm i h0 (by omega)
  have c0 : w1.cell? ⟨gp, 0, none⟩ = some (.pointer (some ⟨t.tp, 0, none⟩)) := (blk_cell hs0.blk 0).trans rfl
  have k1 : w1.cell? ⟨t.tp, 1, none⟩ = some (.slice t.Af t.cs.length t.cf) := (blk_cell hx.blk 1).trans rfl
  have k4 : w1.cell? ⟨t.tp, 4, none⟩ = some (.slice (some am) t.ms.length t.cm) := by rw [← ham]; exact (blk_cell hx.blk 4).trans rfl
  have hup := HTG.out.up i h0 h1
  have hix : i < t.ms.length := by omega
  have i9 : i < 9223372036854775807 := by omega
  have hwr : IntKind.i64.wrap (i + 1) = i + 1 := IntWalk.i64_in _ (by omega)
  obtain ⟨ra, hra⟩ := base_any hx HTG.out (i + 1) (rd t.ms i) (by omega) (by omega)
  obtain ⟨rb, hrb⟩ := base_any hx HTG.out (i + 1) t.cs.length (by omega) (by omega)
  rw [ham] at hra hrb
  have HRA := Aside0.mk hra
  have HRB := Aside0.mk hrb
  obtain ⟨da, ea⟩ : ∃ d, (ra == 1) = d := ⟨_, rfl⟩
  obtain ⟨db, eb⟩ : ∃ d, (rb == 1) = d := ⟨_, rfl⟩
  generalize hee : rd t.ms i = en at *
  clear hs1 hx hs0 hra hrb HS hcs hms hee ham
  cases d2
  · cases d1
    all_goals
    (go_wp2_with fail
     go_at_call 102
     refine Calls.mono (next_any (B := B) (t := t) (w := w) (len := len) (by repeat (first | exact HS1.out | apply Sk.drewN)) (by omega) _) ?_
     rintro e w3 ⟨⟨y, rfl⟩, hb⟩
     have HS3 : Aside0 (Sk B t w gp len w3) := ⟨Sk.below (by repeat (first | exact HS1.out | apply Sk.drewN)) hb⟩
     clear hb
     obtain ⟨z, hz⟩ := fits_any HS3.out y
     have HZ := Aside0.mk hz
     obtain ⟨v, es, o, em, is, hs, hgd, hle⟩ := HS3.out.st
     have HT := Aside0.mk hs
     have HG := Aside0.mk hgd
     obtain ⟨Av, cv, rfl, _, _⟩ := Kd.R_reads hs.row
     have r1 : w3.cell? ⟨gp, 1, none⟩ = some (.slice Av es.length cv) := (blk_cell hs.blk 1).trans rfl
     have r2 : w3.cell? ⟨gp, 2, none⟩ = some (.int .i64 o) := (blk_cell hs.blk 2).trans rfl
     have f2 := blk_frozen hs.blk 2
     have is0 : 0 ≤ is := hgd.nonneg
     have is1 : is ≤ 50000 := by have := hgd.le; omega
     clear hz hs hgd
     cases z
     · go_wp2_with (go_at_call 103; ((with_reducible refine HZ.out.mono ?_); rintro e w2 ⟨rfl, q2, rfl⟩))
       go_returns
       exact ⟨rfl, (HS3.out.drewN _).own ((Below.refl _ _).setCell HS3.out.hgp _) ((HT.out.below (pw_below_drewN (Below.refl _ _) _)).put2) HG.out (by omega)⟩
     · go_wp2_with (first | (go_at_call 103; ((with_reducible refine HZ.out.mono ?_); rintro e w2 ⟨rfl, q2, rfl⟩); have HT2 := Aside0.mk (HT.out.below (pw_below_drewN (Below.refl _ _) q2)); have HS2 := Aside0.mk (HS3.out.drewN q2)) | ((with_reducible refine gate_builtin (b := .append) (xs := #[.tmp 65, .tmp 68]) rfl ?_); at_builtin; refine Kd.R_append kEn (w0 := w3.drewN q2) w.heap.size rfl (.tmp 65) (.tmp 68) 120 125 (.agg #[(.int .i64 0), (.int .i64 0), (.bool false)]) 24 rfl Try.underlying120 infoEn rfl (by decide) (by omega) _ es (⟨y, -1, true⟩ : En) [.int .i64 y, .int .i64 (-1), .bool true] (fun _ => True) (fun _ => False) rfl rfl ?aP (fun _ hk => hk.elim) ?aF ?aO ?aB ?aS ?aL ?_; (case aP => exact kEn_mkM _ _ _ (⟨y, -1, true⟩ : En)); (case aB => exact Below.refl _ _); (case aF => exact (fun _ _ => trivial)); (case aO => exact HT2.out.row); (case aS => exact Nat.le_trans HS2.out.ch.size (Nat.le_refl _)); (case aL => omega); intro v9 w9 ho hb hg hat; obtain ⟨A9, c9, rfl⟩ := Kd.R_slice ho; have hh := HT2.out.push hg ho; rw [List.length_append] at hh; have HP9 := Aside0.mk hh; have HB9 := Aside0.mk hb; have k9 : w9.cell? ⟨gp, 1, none⟩ = some _ := (blk_cell (HT2.out.blk9 hg) 1).trans rfl; have g9 := blk_frozen (HT2.out.blk9 hg) 1; have k94 : w9.cell? ⟨gp, 4, none⟩ = some (.int .i64 is) := (blk_cell (HT2.out.blk9 hg) 4).trans rfl; have g94 := blk_frozen (HT2.out.blk9 hg) 4; clear ho hb hg hat hh))
       go_returns
       exact ⟨rfl, HS2.out.own ((HB9.out.setCell HS3.out.hgp _).setCell HS3.out.hgp _) HP9.out.put4 (HG.out.push1 rfl) (by simp; omega)⟩)
  · by_cases hneg : en < 0
    · have hdn : decide (en < 0) = true := decide_eq_true hneg
      clear hneg
      cases db
      all_goals
      (go_wp2
       refine wp_region_quiet_lit (by kernel_rfl) (by kernel_rfl) ?_
       repeat (first | rw [hwr] | go_big_quiet_step ((go_at_call 31; with_reducible exact Calls.quiet_of (HRB.out _))))
       refine wpQuiet_nil ?_
       intro _ hw'
       obtain ⟨nq, hw''⟩ := hw'
       subst hw''
       go_wp2_with fail
       go_at_call 102
       refine Calls.mono (next_any (B := B) (t := t) (w := w) (len := len) (by repeat (first | exact HS1.out | apply Sk.drewN)) (by omega) _) ?_
       rintro e w3 ⟨⟨y, rfl⟩, hb⟩
       have HS3 : Aside0 (Sk B t w gp len w3) := ⟨Sk.below (by repeat (first | exact HS1.out | apply Sk.drewN)) hb⟩
       clear hb
       obtain ⟨z, hz⟩ := fits_any HS3.out y
       have HZ := Aside0.mk hz
       obtain ⟨v, es, o, em, is, hs, hgd, hle⟩ := HS3.out.st
       have HT := Aside0.mk hs
       have HG := Aside0.mk hgd
       obtain ⟨Av, cv, rfl, _, _⟩ := Kd.R_reads hs.row
       have r1 : w3.cell? ⟨gp, 1, none⟩ = some (.slice Av es.length cv) := (blk_cell hs.blk 1).trans rfl
       have r2 : w3.cell? ⟨gp, 2, none⟩ = some (.int .i64 o) := (blk_cell hs.blk 2).trans rfl
       have f2 := blk_frozen hs.blk 2
       have is0 : 0 ≤ is := hgd.nonneg
       have is1 : is ≤ 50000 := by have := hgd.le; omega
       clear hz hs hgd
       cases z
       · go_wp2_with (go_at_call 103; ((with_reducible refine HZ.out.mono ?_); rintro e w2 ⟨rfl, q2, rfl⟩))
         go_returns
         exact ⟨rfl, (HS3.out.drewN _).own ((Below.refl _ _).setCell HS3.out.hgp _) ((HT.out.below (pw_below_drewN (Below.refl _ _) _)).put2) HG.out (by omega)⟩
       · go_wp2_with (first | (go_at_call 103; ((with_reducible refine HZ.out.mono ?_); rintro e w2 ⟨rfl, q2, rfl⟩); have HT2 := Aside0.mk (HT.out.below (pw_below_drewN (Below.refl _ _) q2)); have HS2 := Aside0.mk (HS3.out.drewN q2)) | ((with_reducible refine gate_builtin (b := .append) (xs := #[.tmp 65, .tmp 68]) rfl ?_); at_builtin; refine Kd.R_append kEn (w0 := w3.drewN q2) w.heap.size rfl (.tmp 65) (.tmp 68) 120 125 (.agg #[(.int .i64 0), (.int .i64 0), (.bool false)]) 24 rfl Try.underlying120 infoEn rfl (by decide) (by omega) _ es (⟨y, -1, true⟩ : En) [.int .i64 y, .int .i64 (-1), .bool true] (fun _ => True) (fun _ => False) rfl rfl ?aP (fun _ hk => hk.elim) ?aF ?aO ?aB ?aS ?aL ?_; (case aP => exact kEn_mkM _ _ _ (⟨y, -1, true⟩ : En)); (case aB => exact Below.refl _ _); (case aF => exact (fun _ _ => trivial)); (case aO => exact HT2.out.row); (case aS => exact Nat.le_trans HS2.out.ch.size (Nat.le_refl _)); (case aL => omega); intro v9 w9 ho hb hg hat; obtain ⟨A9, c9, rfl⟩ := Kd.R_slice ho; have hh := HT2.out.push hg ho; rw [List.length_append] at hh; have HP9 := Aside0.mk hh; have HB9 := Aside0.mk hb; have k9 : w9.cell? ⟨gp, 1, none⟩ = some _ := (blk_cell (HT2.out.blk9 hg) 1).trans rfl; have g9 := blk_frozen (HT2.out.blk9 hg) 1; have k94 : w9.cell? ⟨gp, 4, none⟩ = some (.int .i64 is) := (blk_cell (HT2.out.blk9 hg) 4).trans rfl; have g94 := blk_frozen (HT2.out.blk9 hg) 4; clear ho hb hg hat hh))
         go_returns
         exact ⟨rfl, HS2.out.own ((HB9.out.setCell HS3.out.hgp _).setCell HS3.out.hgp _) HP9.out.put4 (HG.out.push1 rfl) (by simp; omega)⟩)
    · have hdn : decide (en < 0) = false := decide_eq_false hneg
      clear hneg
      cases da
      all_goals
      (go_wp2
       refine wp_region_quiet_lit (by kernel_rfl) (by kernel_rfl) ?_
       repeat (first | rw [hwr] | go_big_quiet_step ((go_at_call 31; with_reducible exact Calls.quiet_of (HRA.out _))))
       refine wpQuiet_nil ?_
       intro _ hw'
       obtain ⟨nq, hw''⟩ := hw'
       subst hw''
       go_wp2_with fail
       go_at_call 102
       refine Calls.mono (next_any (B := B) (t := t) (w := w) (len := len) (by repeat (first | exact HS1.out | apply Sk.drewN)) (by omega) _) ?_
       rintro e w3 ⟨⟨y, rfl⟩, hb⟩
       have HS3 : Aside0 (Sk B t w gp len w3) := ⟨Sk.below (by repeat (first | exact HS1.out | apply Sk.drewN)) hb⟩
       clear hb
       obtain ⟨z, hz⟩ := fits_any HS3.out y
       have HZ := Aside0.mk hz
       obtain ⟨v, es, o, em, is, hs, hgd, hle⟩ := HS3.out.st
       have HT := Aside0.mk hs
       have HG := Aside0.mk hgd
       obtain ⟨Av, cv, rfl, _, _⟩ := Kd.R_reads hs.row
       have r1 : w3.cell? ⟨gp, 1, none⟩ = some (.slice Av es.length cv) := (blk_cell hs.blk 1).trans rfl
       have r2 : w3.cell? ⟨gp, 2, none⟩ = some (.int .i64 o) := (blk_cell hs.blk 2).trans rfl
       have f2 := blk_frozen hs.blk 2
       have is0 : 0 ≤ is := hgd.nonneg
       have is1 : is ≤ 50000 := by have := hgd.le; omega
       clear hz hs hgd
       cases z
       · go_wp2_with (go_at_call 103; ((with_reducible refine HZ.out.mono ?_); rintro e w2 ⟨rfl, q2, rfl⟩))
         go_returns
         exact ⟨rfl, (HS3.out.drewN _).own ((Below.refl _ _).setCell HS3.out.hgp _) ((HT.out.below (pw_below_drewN (Below.refl _ _) _)).put2) HG.out (by omega)⟩
       · go_wp2_with (first | (go_at_call 103; ((with_reducible refine HZ.out.mono ?_); rintro e w2 ⟨rfl, q2, rfl⟩); have HT2 := Aside0.mk (HT.out.below (pw_below_drewN (Below.refl _ _) q2)); have HS2 := Aside0.mk (HS3.out.drewN q2)) | ((with_reducible refine gate_builtin (b := .append) (xs := #[.tmp 65, .tmp 68]) rfl ?_); at_builtin; refine Kd.R_append kEn (w0 := w3.drewN q2) w.heap.size rfl (.tmp 65) (.tmp 68) 120 125 (.agg #[(.int .i64 0), (.int .i64 0), (.bool false)]) 24 rfl Try.underlying120 infoEn rfl (by decide) (by omega) _ es (⟨y, -1, true⟩ : En) [.int .i64 y, .int .i64 (-1), .bool true] (fun _ => True) (fun _ => False) rfl rfl ?aP (fun _ hk => hk.elim) ?aF ?aO ?aB ?aS ?aL ?_; (case aP => exact kEn_mkM _ _ _ (⟨y, -1, true⟩ : En)); (case aB => exact Below.refl _ _); (case aF => exact (fun _ _ => trivial)); (case aO => exact HT2.out.row); (case aS => exact Nat.le_trans HS2.out.ch.size (Nat.le_refl _)); (case aL => omega); intro v9 w9 ho hb hg hat; obtain ⟨A9, c9, rfl⟩ := Kd.R_slice ho; have hh := HT2.out.push hg ho; rw [List.length_append] at hh; have HP9 := Aside0.mk hh; have HB9 := Aside0.mk hb; have k9 : w9.cell? ⟨gp, 1, none⟩ = some _ := (blk_cell (HT2.out.blk9 hg) 1).trans rfl; have g9 := blk_frozen (HT2.out.blk9 hg) 1; have k94 : w9.cell? ⟨gp, 4, none⟩ = some (.int .i64 is) := (blk_cell (HT2.out.blk9 hg) 4).trans rfl; have g94 := blk_frozen (HT2.out.blk9 hg) 4; clear ho hb hg hat hh))
         go_returns
         exact ⟨rfl, HS2.out.own ((HB9.out.setCell HS3.out.hgp _).setCell HS3.out.hgp _) HP9.out.put4 (HG.out.push1 rfl) (by simp; omega)⟩)
end Go.Proofs.Yteoonjnmghponaa.F
