/- Package bidi: an isolate shut, walked. Package bidi: the explicit levels, walked. Package bidi: sequences in the making, in memory. Package bidi: the sequences told off, walked. Package bidi: the levels of separators and blanks, walked. -/
import Derived.Test.YteoonjnmghponaaZBda
import Derived.Maps.OwnSet
import Derived.Deep.CutBlock
namespace Go.Proofs.Yteoonjnmghponaa.F
open Go.RowKit Go.Proofs.YteoonjnmghponaaW.PrintWords Go.Proofs.YteoonjnmghponaaW.PrintLast Go.Proofs.YteoonjnmghponaaW.PrintMore
set_option linter.unusedVariables false
set_option linter.unusedSimpArgs false
theorem Good.pop {es : List En} {is : Int} (h : Good es is) : 0 < es.length ∧ ((rdEn es (es.length - 1)).f2 = false → (0 < is ∨ 1 < es.length) → Good (es.take (es.length - 1)) is) ∧ ((rdEn es (es.length - 1)).f2 = true → Good (es.take (es.length - 1)) (is - 1)) := by
 obtain ⟨e0, r, he, h1, h2⟩ := h
 rcases List.eq_nil_or_concat es with hn | ⟨pre, x, hx⟩
 ·rw [hn] at he; cases he
 ·rw [List.concat_eq_append] at hx
  have hl : es.length = pre.length + 1 := by rw [hx]; simp
  have hr : rdEn es (es.length - 1) = x := by
   unfold rdEn
   rw [hl, show ((((pre.length + 1 : Nat) : Int)) - 1).toNat = pre.length by omega, hx]
   simp
  have ht : es.take (es.length - 1) = pre := by
   rw [hl, hx]
   simp
  have hi : is = isos pre + (if x.f2 then 1 else 0) := by rw [h2, hx, isos_push]
  refine ⟨by omega, ?_, ?_⟩
  ·rw [hr, ht]
   intro hf hp
   rw [hf] at hi
   rcases pre with _ | ⟨p0, r'⟩
   ·exfalso
    simp [isos] at hi hl
    omega
   ·rw [hx] at he
    have : p0 = e0 := by simpa using (List.cons.inj he).1
    subst this
    exact ⟨p0, r', rfl, h1, by simpa using hi⟩
  ·rw [hr, ht]
   intro hf
   rw [hf] at hi
   rcases pre with _ | ⟨p0, r'⟩
   ·rw [hx] at he
    have : x = e0 := by simpa using (List.cons.inj he).1
    subst this
    rw [h1] at hf
    cases hf
   ·rw [hx] at he
    have : p0 = e0 := by simpa using (List.cons.inj he).1
    subst this
    exact ⟨p0, r', rfl, h1, by simp at hi; omega⟩
theorem below_drewB {B : Nat} {w W : World} (h : Below B w W) : Below B w W.drew := h.drew
/-- The top entry taken off. -/
theorem St.pop {t : TP} {b gp : Nat} {A : Option Addr} {n c : Nat} {es : List En} {o em is : Int} {W : World} (h : St t b gp (.slice A n c) es o em is W) : St t b gp (.slice A (es.length - 1) c) (es.take (es.length - 1)) o em is (W.setCell ⟨gp, 1, none⟩ (.slice A (es.length - 1) c)) :=
 h.put1 (Kd.R_take h.row (by omega))
set_option maxRecDepth 100000 in
set_option maxHeartbeats 4000000 in
theorem shut_any {B : Nat} {t : TP} {w : World} {gp : Nat} {len : Int} {W : World} (h : Sk B t w gp len W) (hl : len ≤ 50000) (hn : t.n ≤ 16384) (i : Int) (h0 : 0 ≤ i) (h1 : i < t.n) :
  Calls Try.prog 68 #[.pointer (some ⟨gp, 0, none⟩), .int .i64 i] W fun e w' => e = .returned (.tuple #[]) ∧ Sk B t w gp len w' := by
 have HS := Aside0.mk h
 obtain ⟨v, es, o, em, is, hs, hgd, hle⟩ := h.st
 have HT := Aside0.mk hs
 have HG := Aside0.mk hgd
 have r2 : W.cell? ⟨gp, 2, none⟩ = some (.int .i64 o) := (blk_cell hs.blk 2).trans rfl
 have r3 : W.cell? ⟨gp, 3, none⟩ = some (.int .i64 em) := (blk_cell hs.blk 3).trans rfl
 have r4 : W.cell? ⟨gp, 4, none⟩ = some (.int .i64 is) := (blk_cell hs.blk 4).trans rfl
 have f2 := blk_frozen hs.blk 2
 have f3 := blk_frozen hs.blk 3
 have is0 : 0 ≤ is := hgd.nonneg
 have is1 : is ≤ 50000 := by have := hgd.le; omega
 have hf2 : ∀ (a b : Int) (c : Bool) (w : World), (Instr.field 125 (.agg #[.int .i64 a, .int .i64 b, .bool c]) 2).run Try.prog w = .ok (.bool c) w := fun _ _ _ _ => by kernel_rfl
 clear h hs hgd
 by_cases ho : 0 < o
 ·have hdo : decide (0 < o) = true := decide_eq_true ho
  clear ho
  have HS2 : ∀ x, Aside0 (Sk B t w gp len (W.setCell ⟨gp, 2, none⟩ (.int .i64 x))) := fun x => ⟨HS.out.own ((Below.refl _ _).setCell HS.out.hgp _) HT.out.put2 HG.out (by omega)⟩
  go_enter Try.func68, Try.ntmps68
  go_wp2_with (go_at_call 70; ((with_reducible refine Calls.mono (plain_any (HS2 _).out (by omega) i h0 h1 hn) ?_); rintro e w2 ⟨rfl, hs2⟩; have HS9 := Aside0.mk hs2; clear hs2))
  go_returns
  exact ⟨rfl, HS9.out⟩
 ·have hdo : decide (0 < o) = false := decide_eq_false ho
  clear ho
  by_cases hi : 0 < is
  ·have hdi : decide (0 < is) = true := decide_eq_true hi
   have HI := Aside0.mk hi
   clear hi
   go_enter Try.func68, Try.ntmps68
   go_wp2
   have HS3 : Aside0 (Sk B t w gp len (W.setCell ⟨gp, 3, none⟩ (.int .i64 0))) := ⟨HS.out.own ((Below.refl _ _).setCell HS.out.hgp _) HT.out.put3 HG.out (by omega)⟩
   have HT3 : Aside0 (St t w.heap.size gp v es o 0 is (W.setCell ⟨gp, 3, none⟩ (.int .i64 0))) := ⟨HT.out.put3⟩
   clear HS HT r2 r3 r4 f2 f3
   generalize W.setCell ⟨gp, 3, none⟩ (.int .i64 0) = w3 at *
   go_loopg [24] es.length (fun kq s24 wq => ∃ (v' : Value) (es' : List En), Aside0 (St t w.heap.size gp v' es' o 0 is wq) ∧ Aside0 (Good es' is) ∧ Aside0 (es'.length = kq ∧ kq ≤ es.length) ∧ Aside0 (Below w.heap.size w3 wq))
   case atStart => exact ⟨v, es, HT3, HG, ⟨rfl, Nat.le_refl _⟩, ⟨Below.refl _ _⟩⟩
   case round =>
    clear HT3 HG
    obtain ⟨v', es', HT, HG, HL, HB⟩ := hrel
    obtain ⟨q0, q1, q2⟩ := HG.out.pop
    have HQ1 := Aside0.mk q1
    have HQ2 := Aside0.mk q2
    have hlen : es'.length ≤ 100000 := by have := HL.out; omega
    have HTop := Aside0.mk (top_any HT.out q0 hlen)
    obtain ⟨Av, cv, rfl, hcap, hC⟩ := Kd.R_reads HT.out.row
    obtain ⟨av, rfl, _⟩ := at_En hC 0 (by omega) (by omega)
    have m0 : (0 : Int) < es'.length := by omega
    have m1 : (es'.length : Int) ≤ 100000 := by omega
    have hwr : IntKind.i64.wrap ((es'.length : Int) - 1) = es'.length - 1 := IntWalk.i64_in _ (by omega)
    obtain ⟨b, hbb⟩ : ∃ b, (rdEn es' (es'.length - 1)).f2 = b := ⟨_, rfl⟩
    rw [hbb] at HTop HQ1 HQ2
    clear q1 q2 hC hbb
    cases b
    ·go_wp2_with (go_at_call 69; ((with_reducible refine HTop.out.mono ?_); rintro e w5 ⟨rfl, hb⟩; have HT5 := Aside0.mk (HT.out.below hb); have HB5 := Aside0.mk (HB.out.trans (hb.mono (Nat.le_trans HS3.out.ch.size HB.out.size))); have l1 : w5.cell? ⟨gp, 1, none⟩ = some (.slice (some av) es'.length cv) := (blk_cell HT5.out.blk 1).trans rfl; have g1 := blk_frozen HT5.out.blk 1; clear hb))
     refine wp_region_quiet_tail 14 (by kernel_rfl) (by kernel_rfl) ?_
     simp only [List.take_succ_cons, List.take_zero, List.drop_succ_cons, List.drop_zero]
     repeat (first | rw [hwr] | go_big_quiet_skip | (go_big_quiet_want; go_big_quiet_op; go_big_quiet_on))
     refine wpQuiet_nil ?_
     go_wp2
     go_roundg (es'.length - 1)
     case measure => have := HL.out; omega
     case rel => exact ⟨_, _, ⟨HT5.out.pop.below (below_drew (Below.refl _ _))⟩, ⟨HQ1.out (by first | rfl | trivial) (.inl HI.out)⟩, ⟨by simp, by have := HL.out; omega⟩, ⟨below_drewB (HB5.out.setCell HS3.out.hgp _)⟩⟩
    ·go_wp2_with (go_at_call 69; ((with_reducible refine HTop.out.mono ?_); rintro e w5 ⟨rfl, hb⟩; have HT5 := Aside0.mk (HT.out.below hb); have HB5 := Aside0.mk (HB.out.trans (hb.mono (Nat.le_trans HS3.out.ch.size HB.out.size))); have l1 : w5.cell? ⟨gp, 1, none⟩ = some (.slice (some av) es'.length cv) := (blk_cell HT5.out.blk 1).trans rfl; have g1 := blk_frozen HT5.out.blk 1; clear hb))
     refine wp_region_quiet_tail 14 (by kernel_rfl) (by kernel_rfl) ?_
     simp only [List.take_succ_cons, List.take_zero, List.drop_succ_cons, List.drop_zero]
     repeat (first | rw [hwr] | go_big_quiet_skip | (go_big_quiet_want; go_big_quiet_op; go_big_quiet_on))
     refine wpQuiet_nil ?_
     have l4 : w5.cell? ⟨gp, 4, none⟩ = some (.int .i64 is) := (blk_cell HT5.out.blk 4).trans rfl
     have g4 := blk_frozen HT5.out.blk 4
     have HT6 := Aside0.mk ((HT5.out.pop.put4 (x := is - 1)).below (below_drew (Below.refl _ _)))
     have HS6 := Aside0.mk (HS3.out.own (len' := len) (below_drewB ((HB5.out.setCell HS3.out.hgp _).setCell HS3.out.hgp _)) HT6.out (HQ2.out (by first | rfl | trivial)) (by have := HL.out; simp; omega))
     go_wp2_with (go_at_call 70; ((with_reducible refine Calls.mono (plain_any HS6.out (by omega) i h0 h1 hn) ?_); rintro e w2 ⟨rfl, hs2⟩; have HS9 := Aside0.mk hs2; clear hs2))
     go_returns
     exact ⟨rfl, HS9.out⟩
  ·have hdi : decide (0 < is) = false := decide_eq_false hi
   clear hi
   go_enter Try.func68, Try.ntmps68
   go_wp2_with (go_at_call 70; ((with_reducible refine Calls.mono (plain_any HS.out (by omega) i h0 h1 hn) ?_); rintro e w2 ⟨rfl, hs2⟩; have HS9 := Aside0.mk hs2; clear hs2))
   go_returns
   exact ⟨rfl, HS9.out⟩
end Go.Proofs.Yteoonjnmghponaa.F
namespace Go.Proofs.Yteoonjnmghponaa.F
open Go.RowKit Go.Proofs.YteoonjnmghponaaW.PrintWords Go.Proofs.YteoonjnmghponaaW.PrintLast Go.Proofs.YteoonjnmghponaaW.PrintMore
set_option linter.unusedVariables false
set_option linter.unusedSimpArgs false
set_option maxRecDepth 100000 in
set_option maxHeartbeats 4000000 in
theorem explicit_any {B : Nat} {t : TP} {xs ys : List Int} {w : World} (hx : Tx B t xs ys w) (hg : TG t) (hz : t.bN < w.heap.size ∧ t.bL < w.heap.size) (hlo : B ≤ w.heap.size) :
  Calls Try.prog 32 #[.pointer (some ⟨t.tp, 0, none⟩)] w fun e w' => e = .returned (.tuple #[]) ∧ (∃ xs ys, Tx B t xs ys w') ∧ Ch B t w w' := by
 have HX := Aside0.mk hx
 have HTG := Aside0.mk hg
 have LOW := Aside0.mk (hx.low hz)
 have hn := hg.n
 have hcs : t.cs.length = t.n := hx.lens.2.1
 clear hg hx
 go_enter Try.func32, Try.ntmps32
 go_wp2_with fail
 go_at_call 65
 have hbn := blk_new w (.cells #[.pointer (some ⟨t.tp, 0, none⟩), .slice none 0 0, .int .i64 0, .int .i64 0, .int .i64 0] 122)
 refine Calls.mono (reset_any (w := w) (HX.out.below (below_alloc (Below.refl _ _) _)) ((Ch.refl B t w).below hlo (below_alloc (Below.refl _ _) _)) hlo LOW.out (Nat.le_refl _) hbn) ?_
 rintro e w1 ⟨rfl, hs1⟩
 have HS1 := Aside0.mk hs1
 have k1 : w1.cell? ⟨t.tp, 1, none⟩ = some (.slice t.Af t.cs.length t.cf) := by
  obtain ⟨x1, y1, hx1⟩ := hs1.tx
  exact (blk_cell hx1.blk 1).trans rfl
 clear hs1 hbn
 go_wp2
 go_loopw [15] (fun s15 wq => ∃ (k : Int), s15 = .int .i64 k ∧ Aside0 (0 ≤ k) ∧ Aside0 (Sk B t w w.heap.size (k + 1) wq)) (fun s15 _ => (t.n - intOf s15).toNat)
 case atStart => exact ⟨0, rfl, ⟨by omega⟩, HS1⟩
 case round =>
  clear HS1
  obtain ⟨k, rfl, HK, HS⟩ := hrel
  have hk0 := HK.out
  by_cases hkn : k < t.n
  ·have hd : decide (k < t.n) = true := decide_eq_true hkn
   have hlt : k < t.cs.length := by omega
   have hk1 : k < 9223372036854775807 := by omega
   have HLT := Aside0.mk hkn
   obtain ⟨x1, y1, hx1⟩ := HS.out.tx
   obtain ⟨af, haf, hci⟩ := Kd.at_int hx1.rf k hk0 hlt
   generalize rd t.cs k = c at *
   rw [haf]
   obtain ⟨d18, h18⟩ : ∃ d, (c == 18) = d := ⟨_, rfl⟩
   obtain ⟨d10, h10⟩ : ∃ d, (c == 10) = d := ⟨_, rfl⟩
   cases d18
   ·cases d10
    ·clear hx1 hlt
     go_wp2_with (first | (go_at_call 66; ((with_reducible refine Calls.mono (embed_any HS.out (by have := HLT.out; omega) c) ?_); rintro e w2 ⟨rfl, hs2⟩; have HS9 := Aside0.mk hs2; clear hs2)) | (go_at_call 67; ((with_reducible refine Calls.mono (open_any HS.out (by have := HLT.out; omega) HTG.out k c hk0 HLT.out) ?_); rintro e w2 ⟨rfl, hs2⟩; have HS9 := Aside0.mk hs2; clear hs2)) | (go_at_call 68; ((with_reducible refine Calls.mono (shut_any HS.out (by have := HLT.out; omega) hn k hk0 HLT.out) ?_); rintro e w2 ⟨rfl, hs2⟩; have HS9 := Aside0.mk (hs2.mono (show k + 1 ≤ k + 1 + 1 by omega)); clear hs2)) | (go_at_call 70; ((with_reducible refine Calls.mono (plain_any HS.out (by have := HLT.out; omega) k hk0 HLT.out hn) ?_); rintro e w2 ⟨rfl, hs2⟩; have HS9 := Aside0.mk (hs2.mono (show k + 1 ≤ k + 1 + 1 by omega)); clear hs2)))
     all_goals first
      | exact ⟨⟨k + 1, rfl, ⟨by omega⟩, HS9⟩, by have := HLT.out; simp [intOf]; omega⟩
      | exact ⟨⟨k + 1, rfl, ⟨by omega⟩, ⟨HS.out.mono (by omega)⟩⟩, by have := HLT.out; simp [intOf]; omega⟩
    ·obtain rfl : c = 10 := by simpa using h10
     obtain ⟨_, ⟨cL, yL, g1, g2, g3⟩, _⟩ := HS.out.cellsL k hk0 hkn
     have g5 : wr.cell? ⟨t.tp, 5, none⟩ = some (.int .i64 t.bs) := (blk_cell hx1.blk 5).trans rfl
     clear hx1 hlt
     go_wp2
     refine wp_region_quiet_tail 10 (by kernel_rfl) (by kernel_rfl) ?_
     simp only [List.take_succ_cons, List.take_zero, List.drop_succ_cons, List.drop_zero]
     repeat (first | go_big_quiet_skip | (go_big_quiet_want; go_big_quiet_op; go_big_quiet_on))
     refine wpQuiet_nil ?_
     have HS6 := Aside0.mk ((HS.out.setL k t.bs hk0 hkn).below (below_drew (Below.refl _ _)))
     obtain ⟨x6, y6, hx6⟩ := HS6.out.tx
     obtain ⟨v6, es6, o6, em6, is6, hs6, _⟩ := HS6.out.st
     have HRS := Aside0.mk (reset_any hx6 HS6.out.ch hlo LOW.out (Nat.le_refl _) hs6.blk)
     clear hx6 hs6 g1 g5
     go_wp2_with (go_at_call 65; ((with_reducible refine HRS.out.mono ?_); rintro e w2 ⟨rfl, hs2⟩; have HS9 := Aside0.mk (hs2.mono (show 1 ≤ k + 1 + 1 by omega)); clear hs2))
     exact ⟨⟨k + 1, rfl, ⟨by omega⟩, HS9⟩, by have := HLT.out; simp [intOf]; omega⟩
   ·obtain rfl : c = 18 := by simpa using h18
    obtain ⟨v', es', o, em, is, hs, hgd, hle⟩ := HS.out.st
    have HT := Aside0.mk hs
    have HG := Aside0.mk hgd
    obtain ⟨q0, q1, q2⟩ := hgd.pop
    have HQ1 := Aside0.mk q1
    have hlen : es'.length ≤ 100000 := by omega
    have HTop := Aside0.mk (top_any hs q0 hlen)
    obtain ⟨Av, cv, rfl, hcap, hC⟩ := Kd.R_reads hs.row
    obtain ⟨av, rfl, _⟩ := at_En hC 0 (by omega) (by omega)
    have r1 : wr.cell? ⟨w.heap.size, 1, none⟩ = some (.slice (some av) es'.length cv) := (blk_cell hs.blk 1).trans rfl
    have r2 : wr.cell? ⟨w.heap.size, 2, none⟩ = some (.int .i64 o) := (blk_cell hs.blk 2).trans rfl
    have r3 : wr.cell? ⟨w.heap.size, 3, none⟩ = some (.int .i64 em) := (blk_cell hs.blk 3).trans rfl
    have f3 := blk_frozen hs.blk 3
    have m0 : (0 : Int) < es'.length := by omega
    have m1 : (es'.length : Int) ≤ 100000 := by omega
    have hwr : IntKind.i64.wrap ((es'.length : Int) - 1) = es'.length - 1 := IntWalk.i64_in _ (by omega)
    have hf2 : ∀ (a b : Int) (c : Bool) (w : World), (Instr.field 125 (.agg #[.int .i64 a, .int .i64 b, .bool c]) 2).run Try.prog w = .ok (.bool c) w := fun _ _ _ _ => by kernel_rfl
    obtain ⟨b, hbb⟩ : ∃ b, (rdEn es' (es'.length - 1)).f2 = b := ⟨_, rfl⟩
    rw [hbb] at HTop HQ1
    obtain ⟨d1, e1⟩ : ∃ d, decide (0 < o) = d := ⟨_, rfl⟩
    obtain ⟨d2, e2⟩ : ∃ d, decide (0 < em) = d := ⟨_, rfl⟩
    obtain ⟨d3, e3⟩ : ∃ d, decide (1 < (es'.length : Int)) = d := ⟨_, rfl⟩
    have HD3 := Aside0.mk e3
    clear q1 q2 hC hbb hs hgd hx1 hlt
    cases d1
    ·cases d2
     ·cases d3
      ·go_wp2_with (go_at_call 69; ((with_reducible refine HTop.out.mono ?_); rintro e w5 ⟨rfl, hb⟩; have HT5 := Aside0.mk (HT.out.below hb); have HB5 := Aside0.mk (hb.mono HS.out.ch.size); have HS5 := Aside0.mk (HS.out.below hb); have l1 : w5.cell? ⟨w.heap.size, 1, none⟩ = some (.slice (some av) es'.length cv) := (blk_cell HT5.out.blk 1).trans rfl; have g1 := blk_frozen HT5.out.blk 1; clear hb))
       exact ⟨⟨k + 1, rfl, ⟨by omega⟩, ⟨HS.out.mono (by omega)⟩⟩, by have := HLT.out; simp [intOf]; omega⟩
      ·cases b
       ·go_wp2_with (go_at_call 69; ((with_reducible refine HTop.out.mono ?_); rintro e w5 ⟨rfl, hb⟩; have HT5 := Aside0.mk (HT.out.below hb); have HB5 := Aside0.mk (hb.mono HS.out.ch.size); have HS5 := Aside0.mk (HS.out.below hb); have l1 : w5.cell? ⟨w.heap.size, 1, none⟩ = some (.slice (some av) es'.length cv) := (blk_cell HT5.out.blk 1).trans rfl; have g1 := blk_frozen HT5.out.blk 1; clear hb))
        refine wp_region_quiet_tail 14 (by kernel_rfl) (by kernel_rfl) ?_
        simp only [List.take_succ_cons, List.take_zero, List.drop_succ_cons, List.drop_zero]
        repeat (first | rw [hwr] | go_big_quiet_skip | (go_big_quiet_want; go_big_quiet_op; go_big_quiet_on))
        refine wpQuiet_nil ?_
        go_wp2
        exact ⟨⟨k + 1, rfl, ⟨by omega⟩, ⟨HS.out.own (below_drewB (HB5.out.setCell (Nat.le_refl _) _)) (HT5.out.pop.below (below_drew (Below.refl _ _))) (HQ1.out (by first | rfl | trivial) (.inr (by have := of_decide_eq_true HD3.out; omega))) (by simp; omega)⟩⟩, by have := HLT.out; simp [intOf]; omega⟩
       ·go_wp2_with (go_at_call 69; ((with_reducible refine HTop.out.mono ?_); rintro e w5 ⟨rfl, hb⟩; have HT5 := Aside0.mk (HT.out.below hb); have HB5 := Aside0.mk (hb.mono HS.out.ch.size); have HS5 := Aside0.mk (HS.out.below hb); have l1 : w5.cell? ⟨w.heap.size, 1, none⟩ = some (.slice (some av) es'.length cv) := (blk_cell HT5.out.blk 1).trans rfl; have g1 := blk_frozen HT5.out.blk 1; clear hb))
        exact ⟨⟨k + 1, rfl, ⟨by omega⟩, ⟨HS5.out.mono (by omega)⟩⟩, by have := HLT.out; simp [intOf]; omega⟩
     ·go_wp2
      exact ⟨⟨k + 1, rfl, ⟨by omega⟩, ⟨HS.out.own ((Below.refl w.heap.size wr).setCell (p := ⟨w.heap.size, 3, none⟩) (Nat.le_refl w.heap.size) _) HT.out.put3 HG.out (by omega)⟩⟩, by have := HLT.out; simp [intOf]; omega⟩
    ·go_wp2
     exact ⟨⟨k + 1, rfl, ⟨by omega⟩, ⟨HS.out.mono (by omega)⟩⟩, by have := HLT.out; simp [intOf]; omega⟩
  ·have hd : decide (k < t.n) = false := decide_eq_false hkn
   clear hkn
   go_wp2
   go_returns
   exact ⟨rfl, HS.out.tx, HS.out.ch⟩
end Go.Proofs.Yteoonjnmghponaa.F
namespace Go.Proofs.Yteoonjnmghponaa.F
open Go.RowKit Go.Proofs.YteoonjnmghponaaW.PrintWords Go.Proofs.YteoonjnmghponaaW.PrintLast Go.Proofs.YteoonjnmghponaaW.PrintMore
set_option linter.unusedVariables false
set_option linter.unusedSimpArgs false
/-- Pointers to blocks. -/
def kPt : Kd Nat := Kd.scalar (fun sp => Value.pointer (some ⟨sp, 0, none⟩)) (fun _ => rfl)
theorem infoPt : (Try.prog.info? 84).map (fun i => (i.zero, i.size, i.bytes)) = some (some (.pointer none), 1, 8) := by kernel_rfl
theorem infoInt : (Try.prog.info? 3).map (fun i => (i.zero, i.size, i.bytes)) = some (some (.int .i64 0), 1, 8) := by kernel_rfl
/-- How the map's elements are read: nil, or a pointer to a block of the list. -/
def rdS (l : List Nat) : Value → Option (DataW Unit × List MemPlace)
 | .pointer none => some (.lit (.bool false), [])
 | .pointer (some ⟨sp, 0, none⟩) => if sp ∈ l then some (.lit (.bool true), []) else none
 | _ => none
theorem rdS_inv {l : List Nat} {v : Value} {z : DataW Unit × List MemPlace} (h : rdS l v = some z) : v = .pointer none ∨ ∃ sp ∈ l, v = .pointer (some ⟨sp, 0, none⟩) := by
 unfold rdS at h
 split at h
 ·exact .inl rfl
 ·rename_i sp
  by_cases hs : sp ∈ l
  ·exact .inr ⟨sp, hs, rfl⟩
  ·rw [if_neg hs] at h; cases h
 ·cases h
theorem rdS_mono {l l' : List Nat} (hl : ∀ p ∈ l, p ∈ l') {v : Value} {z : DataW Unit × List MemPlace} (h : rdS l v = some z) : rdS l' v = some z := by
 unfold rdS at h ⊢
 split at h
 ·exact h
 ·rename_i sp
  by_cases hs : sp ∈ l
  ·rw [if_pos hs] at h
   rw [if_pos (hl _ hs)]
   exact h
  ·rw [if_neg hs] at h; cases h
 ·cases h
theorem rdS_mk {l : List Nat} {sp : Nat} (h : sp ∈ l) : rdS l (.pointer (some ⟨sp, 0, none⟩)) = some (.lit (.bool true), []) := by
 unfold rdS
 simp only
 rw [if_pos h]
/-- Sequences in the making: their blocks, their rows. -/
structure Qf (t : TP) (N : Nat) (a : Int) (W : World) (l : List Nat) (f : Nat → Value × List Int) : Prop where
 blk : ∀ sp ∈ l, ∃ lv st en : Int, W.heap[sp]? = some (.cells #[.pointer (some ⟨t.tp, 0, none⟩), (f sp).1, .int .i64 lv, .int .i64 st, .int .i64 en] 129 (0, 0))
 row : ∀ sp ∈ l, Kd.R (Kd.int .i64) 3 W N (fun _ => True) (f sp).1 (f sp).2
 inn : ∀ sp ∈ l, ∀ z ∈ (f sp).2, 0 ≤ z ∧ z < t.n
 len : ∀ sp ∈ l, ((f sp).2.length : Int) ≤ a
 lo : ∀ sp ∈ l, N ≤ sp
 apart : ∀ p ∈ l, ∀ q ∈ l, p ≠ q → (f p).1.ownBlock = none ∨ (f p).1.ownBlock ≠ (f q).1.ownBlock
/-- The second loop's memory. -/
structure Se (t : TP) (w w2 : World) (mb : Nat) (a c e : Int) (vo : Value) (lo l : List Nat) (f : Nat → Value × List Int) (W : World) : Prop where
 be : Below w.heap.size w W
 bw : w.heap.size ≤ w2.heap.size
 b2 : Below w2.heap.size w2 W
 out : kPt.R 84 W w2.heap.size (fun _ => True) vo lo
 mp : ∃ n D, W.ownsMap Try.prog 3 (rdS l) mb n D ∧ (n : Int) ≤ e
 mbN : w2.heap.size ≤ mb
 q : Qf t w2.heap.size a W l f
 len : (lo.length : Int) ≤ c
 a0 : 0 ≤ a
 sub : ∀ p ∈ lo, p ∈ l
section
variable {t : TP} {w w2 : World} {mb : Nat} {a c e : Int} {vo : Value} {lo l : List Nat} {f : Nat → Value × List Int} {W W' : World}
theorem Qf.below {N : Nat} (h : Qf t N a W l f) (hb : Below W.heap.size W W') : Qf t N a W' l f :=
 ⟨fun sp hs => by obtain ⟨lv, st, en, hk⟩ := h.blk sp hs; exact ⟨lv, st, en, blk_below hk hb⟩, fun sp hs => Kd.R_below (h.row sp hs) hb, h.inn, h.len, h.lo, h.apart⟩
theorem map_same {n : Nat} {D : DataW Unit} (h : W.ownsMap Try.prog 3 (rdS l) mb n D) (hb : W'.heap[mb]? = W.heap[mb]?) : W'.ownsMap Try.prog 3 (rdS l) mb n D := by
 obtain ⟨es, clock, h1, h2⟩ := h
 exact ⟨es, clock, hb.trans h1, h2⟩
theorem Se.mlt (h : Se t w w2 mb a c e vo lo l f W) : mb < W.heap.size := by
 obtain ⟨n, D, hm, _⟩ := h.mp
 exact hm.lt
theorem Se.below (h : Se t w w2 mb a c e vo lo l f W) (hb : Below W.heap.size W W') : Se t w w2 mb a c e vo lo l f W' := by
 obtain ⟨n, D, hm, hn⟩ := h.mp
 exact ⟨below_step h.be hb, h.bw, h.b2.trans (hb.mono h.b2.size), Kd.R_below h.out hb, ⟨n, D, map_same hm (hb.block mb h.mlt), hn⟩, h.mbN, h.q.below hb, h.len, h.a0, h.sub⟩
theorem Se.drewN (h : Se t w w2 mb a c e vo lo l f W) (q : Nat) : Se t w w2 mb a c e vo lo l f (W.drewN q) := h.below (pw_below_drewN (Below.refl _ _) q)
theorem ne129 : ∀ q, q ∈ 84 :: kPt.E → q ≠ 129 := by decide
theorem ne129i : ∀ q, q ∈ 3 :: (Kd.int .i64).E → q ≠ 129 := by decide
/-- A counter of a sequence is written. -/
theorem Se.setF (h : Se t w w2 mb a c e vo lo l f W) {sp : Nat} (hs : sp ∈ l) (i : Nat) (hi : i = 3 ∨ i = 4) (x : Int) : Se t w w2 mb a c e vo lo l f (W.setCell ⟨sp, i, none⟩ (.int .i64 x)) := by
 obtain ⟨n, D, hm, hn⟩ := h.mp
 obtain ⟨lv, st, en, hk⟩ := h.q.blk sp hs
 have hlo := h.q.lo sp hs
 have hne : mb ≠ sp := by
  intro e
  obtain ⟨es, clock, h1, _⟩ := hm
  rw [e, hk] at h1
  cases h1
 refine ⟨h.be.setCell (Nat.le_trans h.bw hlo) _, h.bw, h.b2.setCell hlo _, Kd.R_set h.out hk ne129 i _, ⟨n, D, map_same hm (Below.heap_setCell W ⟨sp, i, none⟩ _ mb hne), hn⟩, h.mbN, ⟨fun p hp => ?_, fun p hp => Kd.R_set (h.q.row p hp) hk ne129i i _, h.q.inn, h.q.len, h.q.lo, h.q.apart⟩, h.len, h.a0, h.sub⟩
 by_cases e : p = sp
 ·subst e
  rcases hi with rfl | rfl
  ·exact ⟨lv, x, en, blk_put hk 3 _ rfl⟩
  ·exact ⟨lv, st, x, blk_put hk 4 _ rfl⟩
 ·obtain ⟨lv', st', en', hk'⟩ := h.q.blk p hp
  exact ⟨lv', st', en', blk_far hk' e _⟩
/-- A new sequence. -/
theorem Se.newq (h : Se t w w2 mb a c e vo lo l f W) (x : Int) (hnew : W.heap.size ∉ l) : ∃ f', Qf t w2.heap.size a (W.alloc (.cells #[.pointer (some ⟨t.tp, 0, none⟩), .slice none 0 0, .int .i64 x, .int .i64 0, .int .i64 0] 129)) (l ++ [W.heap.size]) f' ∧ f' W.heap.size = (.slice none 0 0, []) := by
 refine ⟨fun p => if p = W.heap.size then (.slice none 0 0, []) else f p, ?_, by simp⟩
 have hq := h.q.below (below_alloc (Below.refl _ _) (.cells #[.pointer (some ⟨t.tp, 0, none⟩), .slice none 0 0, .int .i64 x, .int .i64 0, .int .i64 0] 129))
 have hold : ∀ p ∈ l, (if p = W.heap.size then ((.slice none 0 0, []) : Value × List Int) else f p) = f p := fun p hp => if_neg (fun (e : p = W.heap.size) => hnew (e ▸ hp))
 have ha : 0 ≤ a := h.a0
 refine ⟨fun p hp => ?_, fun p hp => ?_, fun p hp => ?_, fun p hp => ?_, fun p hp => ?_, fun p hp q hq' hne => ?_⟩
 ·rcases List.mem_append.mp hp with hp | hp
  ·rw [hold p hp]; exact hq.blk p hp
  ·obtain rfl := List.mem_singleton.mp hp
   rw [if_pos rfl]
   exact ⟨x, 0, 0, blk_new _ _⟩
 ·rcases List.mem_append.mp hp with hp | hp
  ·rw [hold p hp]; exact hq.row p hp
  ·obtain rfl := List.mem_singleton.mp hp
   rw [if_pos rfl]
   exact Kd.R_nil _ _ _ _ _
 ·rcases List.mem_append.mp hp with hp | hp
  ·rw [hold p hp]; exact hq.inn p hp
  ·obtain rfl := List.mem_singleton.mp hp
   rw [if_pos rfl]
   intro z hz
   cases hz
 ·rcases List.mem_append.mp hp with hp | hp
  ·rw [hold p hp]; exact hq.len p hp
  ·obtain rfl := List.mem_singleton.mp hp
   rw [if_pos rfl]
   exact ha
 ·rcases List.mem_append.mp hp with hp | hp
  ·exact hq.lo p hp
  ·obtain rfl := List.mem_singleton.mp hp
   exact h.b2.size
 ·rcases List.mem_append.mp hp with hp | hp
  ·rw [hold p hp]
   rcases List.mem_append.mp hq' with hq' | hq'
   ·rw [hold q hq']; exact hq.apart p hp q hq' hne
   ·obtain rfl := List.mem_singleton.mp hq'
    rw [if_pos rfl]
    show _ ∨ _ ≠ none
    cases hv : (f p).1.ownBlock with
    | none => exact .inl rfl
    | some b => exact .inr (by simp)
  ·obtain rfl := List.mem_singleton.mp hp
   rw [if_pos rfl]
   exact .inl rfl
/-- A sequence's places grown, its slice laid. -/
theorem Qf.push {N : Nat} (h : Qf t N a W l f) {sp : Nat} (hs : sp ∈ l) {run : List Int} {v9 : Value} {w9 : World} {a' : Int} (hr : Kd.R (Kd.int .i64) 3 w9 N (fun _ => True) v9 ((f sp).2 ++ run)) (hb : Below N W w9) (hg : W.grownBy w9 (f sp).1.ownBlock) (hat : v9.ownBlock = (f sp).1.ownBlock ∨ ∃ b, v9.ownBlock = some b ∧ W.heap.size ≤ b) (hrun : ∀ z ∈ run, 0 ≤ z ∧ z < t.n) (hl : (run.length : Int) ≤ a' - a) :
  Qf t N a' (w9.setCell ⟨sp, 1, none⟩ v9) l (fun p => if p = sp then (v9, (f sp).2 ++ run) else f p) := by
 have hold : ∀ p ∈ l, ∃ lv st en : Int, w9.heap[p]? = some (.cells #[.pointer (some ⟨t.tp, 0, none⟩), (f p).1, .int .i64 lv, .int .i64 st, .int .i64 en] 129 (0, 0)) := by
  intro p hp
  obtain ⟨lv, st, en, hk⟩ := h.blk p hp
  have hne : some p ≠ (f sp).1.ownBlock := fun e => Kd.R_ne (h.row sp hs) hk (by decide) e
  exact ⟨lv, st, en, (hg.block p (blk_lt hk) hne).trans hk⟩
 obtain ⟨lv0, st0, en0, hk0⟩ := hold sp hs
 refine ⟨fun p hp => ?_, fun p hp => ?_, fun p hp => ?_, fun p hp => ?_, h.lo, fun p hp q hq hne => ?_⟩
 ·by_cases e : p = sp
  ·subst e
   rw [if_pos rfl]
   exact ⟨lv0, st0, en0, blk_put hk0 1 _ rfl⟩
  ·rw [if_neg e]
   obtain ⟨lv, st, en, hk⟩ := hold p hp
   exact ⟨lv, st, en, blk_far hk e _⟩
 ·by_cases e : p = sp
  ·subst e
   rw [if_pos rfl]
   exact Kd.R_set hr hk0 ne129i 1 _
  ·rw [if_neg e]
   refine Kd.R_set (Kd.R_grown2 (h.row p hp) rfl hg ?_) hk0 ne129i 1 _
   intro k hk' he
   rcases h.apart p hp sp hs e with n | n
   ·rw [n] at he; cases he
   ·exact n (he.symm.trans hk'.symm)
 ·by_cases e : p = sp
  ·subst e
   rw [if_pos rfl]
   intro z hz
   rcases List.mem_append.mp hz with hz | hz
   ·exact h.inn p hp z hz
   ·exact hrun z hz
  ·rw [if_neg e]; exact h.inn p hp
 ·by_cases e : p = sp
  ·subst e
   rw [if_pos rfl]
   have := h.len p hp
   show (((f p).2 ++ run).length : Int) ≤ a'
   rw [List.length_append]
   omega
  ·rw [if_neg e]
   have := h.len p hp
   have : (0 : Int) ≤ run.length := Int.natCast_nonneg _
   omega
 ·by_cases e : p = sp
  ·subst e
   rw [if_pos rfl, if_neg (fun e => hne e.symm)]
   rcases hat with e1 | ⟨b, e1, hle⟩
   ·show v9.ownBlock = none ∨ _
    rw [e1]; exact h.apart p hp q hq hne
   ·right
    intro he
    have := Kd.R_lt (h.row q hq) b (he.symm.trans e1)
    omega
  ·rw [if_neg e]
   by_cases e' : q = sp
   ·subst e'
    rw [if_pos rfl]
    rcases hat with e1 | ⟨b, e1, hle⟩
    ·show _ ∨ _ ≠ v9.ownBlock
     rw [e1]; exact h.apart p hp q hq hne
    ·cases hv : (f p).1.ownBlock with
     | none => exact .inl rfl
     | some b' =>
      right
      intro he
      have := Kd.R_lt (h.row p hp) b (he.trans e1 ▸ hv)
      omega
   ·rw [if_neg e']; exact h.apart p hp q hq hne
theorem map_wide {n : Nat} {D : DataW Unit} {l' : List Nat} (h : W.ownsMap Try.prog 3 (rdS l) mb n D) (hl : ∀ p ∈ l, p ∈ l') : ∃ D', W.ownsMap Try.prog 3 (rdS l') mb n D' := by
 obtain ⟨es, clock, h1, F, hs, _⟩ := h
 exact ⟨_, es, clock, h1, ⟨F.size, F.stamped, fun x hx => by
  obtain ⟨y, hy⟩ := F.reads x hx
  exact ⟨y, WideElems.rd_stay (fun z hz => rdS_mono hl hz) hy⟩⟩, hs, rfl⟩
theorem Se.new (h : Se t w w2 mb a c e vo lo l f W) (x : Int) (hnew : W.heap.size ∉ l) : ∃ f', Se t w w2 mb a c e vo lo (l ++ [W.heap.size]) f' (W.alloc (.cells #[.pointer (some ⟨t.tp, 0, none⟩), .slice none 0 0, .int .i64 x, .int .i64 0, .int .i64 0] 129)) := by
 obtain ⟨f', hq, _⟩ := h.newq x hnew
 have hk := h.below (below_alloc (Below.refl _ _) (.cells #[.pointer (some ⟨t.tp, 0, none⟩), .slice none 0 0, .int .i64 x, .int .i64 0, .int .i64 0] 129))
 obtain ⟨n, D, hm, hn⟩ := hk.mp
 obtain ⟨D', hm'⟩ := map_wide (l' := l ++ [W.heap.size]) hm (fun p hp => List.mem_append.mpr (.inl hp))
 exact ⟨f', hk.be, hk.bw, hk.b2, hk.out, ⟨n, D', hm', hn⟩, hk.mbN, hq, hk.len, hk.a0, fun p hp => List.mem_append.mpr (.inl (hk.sub p hp))⟩
/-- No row's block is the map's. -/
theorem map_ne {n : Nat} {D : DataW Unit} {α : Type} {d : Kd α} {e N : Nat} {v : Value} {xs : List α} (h : W.ownsMap Try.prog 3 (rdS l) mb n D) (hr : d.R e W N (fun _ => True) v xs) : some mb ≠ v.ownBlock := by
 intro e
 obtain ⟨cells, hc⟩ := Kd.R_typed hr mb e.symm
 obtain ⟨es, clock, h1, _⟩ := h
 rw [h1] at hc
 cases hc
theorem Se.app (h : Se t w w2 mb a c e vo lo l f W) {sp : Nat} (hs : sp ∈ l) {v9 : Value} {w9 : World} (hr : kPt.R 84 w9 w2.heap.size (fun _ => True) v9 (lo ++ [sp])) (hb : Below w2.heap.size W w9) (hg : W.grownBy w9 vo.ownBlock) : Se t w w2 mb a (c + 1) e v9 (lo ++ [sp]) l f w9 := by
 obtain ⟨n, D, hm, hn⟩ := h.mp
 refine ⟨h.be.trans (hb.mono h.bw), h.bw, h.b2.trans hb, hr, ⟨n, D, map_same hm (hg.block mb hm.lt (map_ne hm h.out)), hn⟩, h.mbN, ⟨fun p hp => ?_, fun p hp => Kd.R_over (h.q.row p hp) h.out (by decide) hg, h.q.inn, h.q.len, h.q.lo, h.q.apart⟩, by have := h.len; simp; omega, h.a0, fun p hp => ?_⟩
 ·obtain ⟨lv, st, en, hk⟩ := h.q.blk p hp
  exact ⟨lv, st, en, (hg.block p (blk_lt hk) (fun e => Kd.R_ne h.out hk (by decide) e)).trans hk⟩
 ·rcases List.mem_append.mp hp with hp | hp
  ·exact h.sub p hp
  ·rw [List.mem_singleton.mp hp]; exact hs
theorem Se.push (h : Se t w w2 mb a c e vo lo l f W) {sp : Nat} (hs : sp ∈ l) {run : List Int} {v9 : Value} {w9 : World} {a' : Int} (hr : Kd.R (Kd.int .i64) 3 w9 w2.heap.size (fun _ => True) v9 ((f sp).2 ++ run)) (hb : Below w2.heap.size W w9) (hg : W.grownBy w9 (f sp).1.ownBlock) (hat : v9.ownBlock = (f sp).1.ownBlock ∨ ∃ b, v9.ownBlock = some b ∧ W.heap.size ≤ b) (hrun : ∀ z ∈ run, 0 ≤ z ∧ z < t.n) (hl : (run.length : Int) ≤ a' - a) :
  Se t w w2 mb a' c e vo lo l (fun p => if p = sp then (v9, (f sp).2 ++ run) else f p) (w9.setCell ⟨sp, 1, none⟩ v9) := by
 obtain ⟨n, D, hm, hn⟩ := h.mp
 have hlo := h.q.lo sp hs
 obtain ⟨lv, st, en, hk⟩ := h.q.blk sp hs
 have hk9 := (hg.block sp (blk_lt hk) (fun e => Kd.R_ne (h.q.row sp hs) hk (by decide) e)).trans hk
 have hm9 := map_same hm (hg.block mb hm.lt (map_ne hm (h.q.row sp hs)))
 have hne : mb ≠ sp := by
  intro e
  obtain ⟨es, clock, h1, _⟩ := hm
  rw [e, hk] at h1
  cases h1
 have hr0 : (0 : Int) ≤ run.length := Int.natCast_nonneg _
 exact ⟨(h.be.trans (hb.mono h.bw)).setCell (Nat.le_trans h.bw hlo) _, h.bw, (h.b2.trans hb).setCell hlo _, Kd.R_set (Kd.R_over h.out (h.q.row sp hs) (by decide) hg) hk9 ne129 1 _, ⟨n, D, map_same hm9 (Below.heap_setCell w9 ⟨sp, 1, none⟩ _ mb hne), by omega⟩, h.mbN, h.q.push hs hr hb hg hat hrun hl, h.len, by have := h.a0; omega, h.sub⟩
/-- The map written. -/
theorem Se.put (h : Se t w w2 mb a c e vo lo l f W) {n' : Nat} {D' : DataW Unit} {w9 : World} (hm : w9.ownsMap Try.prog 3 (rdS l) mb n' D') (hg : W.grownBy w9 (some mb)) {e' : Int} (hn : (n' : Int) ≤ e') : Se t w w2 mb a c e' vo lo l f w9 := by
 obtain ⟨n, D, hm0, _⟩ := h.mp
 have hbl : ∀ k, k < W.heap.size → k ≠ mb → w9.heap[k]? = W.heap[k]? := fun k hk hne => hg.block k hk (fun e => hne (Option.some.inj e))
 have hB : ∀ N, N ≤ mb → Below N W w9 := fun N hN => ⟨hg.os, hg.tape, hg.output, hg.size, fun k hk => by
  have := hm0.lt
  exact hbl k (by omega) (by omega)⟩
 have hne : ∀ {α : Type} {d : Kd α} {e : Nat} {v : Value} {xs : List α}, d.R e W w2.heap.size (fun _ => True) v xs → d.E = [] → d.R e w9 w2.heap.size (fun _ => True) v xs := fun hr hE => Kd.R_grown2 hr hE hg (fun k hk => by
  cases hk
  exact map_ne hm0 hr)
 refine ⟨h.be.trans (hB _ (Nat.le_trans h.bw h.mbN)), h.bw, h.b2.trans (hB _ h.mbN), hne h.out rfl, ⟨n', D', hm, hn⟩, h.mbN, ⟨fun p hp => ?_, fun p hp => hne (h.q.row p hp) rfl, h.q.inn, h.q.len, h.q.lo, h.q.apart⟩, h.len, h.a0, h.sub⟩
 obtain ⟨lv, st, en, hk⟩ := h.q.blk p hp
 exact ⟨lv, st, en, (hbl p (blk_lt hk) (fun e => by
  obtain ⟨es, clock, h1, _⟩ := hm0
  rw [← e, hk] at h1
  cases h1)).trans hk⟩
theorem Se.mono {a' c' e' : Int} (h : Se t w w2 mb a c e vo lo l f W) (h1 : a ≤ a') (h2 : c ≤ c') (h3 : e ≤ e') : Se t w w2 mb a' c' e' vo lo l f W := by
 obtain ⟨n, D, hm, hn⟩ := h.mp
 exact ⟨h.be, h.bw, h.b2, h.out, ⟨n, D, hm, by omega⟩, h.mbN, ⟨h.q.blk, h.q.row, h.q.inn, fun p hp => Int.le_trans (h.q.len p hp) h1, h.q.lo, h.q.apart⟩, Int.le_trans h.len h2, Int.le_trans h.a0 h1, h.sub⟩
end
end Go.Proofs.Yteoonjnmghponaa.F
namespace Go.Proofs.Yteoonjnmghponaa.F
open Go.RowKit Go.Proofs.YteoonjnmghponaaW.PrintWords Go.Proofs.YteoonjnmghponaaW.PrintLast Go.Proofs.YteoonjnmghponaaW.PrintMore
set_option linter.unusedVariables false
set_option linter.unusedSimpArgs false
theorem removed_any (c : Int) : ∃ y : Bool, ∀ w : World, Calls Try.prog 71 #[.int .i64 c] w fun e w' => e = .returned (.bool y) ∧ ∃ q, w' = w.drewN q := by
  obtain ⟨y, hy⟩ : ∃ z, P.bidi_removed.f c = some z := by
    unfold P.bidi_removed.f
    repeat' split
    all_goals exact ⟨_, rfl⟩
  exact ⟨y, fun w => (P.bidi_removed.calls c y w hy).mono fun e w' ⟨he, hw⟩ => ⟨he, hw.out⟩⟩
theorem run_C {W : World} {ak : Addr} {ks : List Int} {ck : Nat} {a b : Int} (h : Kd.C (Kd.int .i64) W (some ak) ks.length ks) (h0 : 0 ≤ a) (h1 : a < b) (h2 : b ≤ ks.length) (hc : ks.length ≤ ck) : Kd.C (Kd.int .i64) W (some (ak.add a.toNat)) (b.toNat - a.toNat) ((ks.take b.toNat).drop a.toNat) := by
  have hm := Kd.C_mid (lo := a.toNat) (hi := b.toNat) (c := ck) h (by omega) (by omega) hc
  rw [if_neg (by omega)] at hm
  have hl : ((ks.take b.toNat).drop a.toNat).length = b.toNat - a.toNat := by rw [List.length_drop, List.length_take]; omega
  rw [hl] at hm
  have e : a.toNat * (Kd.int .i64).sz = a.toNat := Nat.mul_one _
  simpa only [e, Option.map_some] using hm
theorem Se.blk9 {t : TP} {w w2 : World} {mb : Nat} {a c e : Int} {vo : Value} {lo l : List Nat} {f : Nat → Value × List Int} {W w9 : World} (h : Se t w w2 mb a c e vo lo l f W) {sp : Nat} (hs : sp ∈ l) (hg : W.grownBy w9 (f sp).1.ownBlock) : (∃ v, w9.cell? ⟨sp, 1, none⟩ = some v ∧ v = (f sp).1) ∧ w9.frozen? ⟨sp, 1, none⟩ = false := by
  obtain ⟨lv, st, en, hk⟩ := h.q.blk sp hs
  have hk9 := (hg.block sp (blk_lt hk) (fun e => Kd.R_ne (h.q.row sp hs) hk (by decide) e)).trans hk
  exact ⟨⟨_, (blk_cell hk9 1).trans rfl, rfl⟩, blk_frozen hk9 1⟩
theorem wf64 {a : Int} (h0 : 0 ≤ a) (h1 : a ≤ 100000) : (Lit.int .i64 a).wf = true := by
  have e1 : IntKind.i64.min = -9223372036854775808 := by decide
  have e2 : IntKind.i64.max = 9223372036854775807 := by decide
  simp [Lit.wf, e1, e2]
  omega
theorem direction_ex (c : Int) (w : World) : Calls Try.prog 72 #[.int .i64 c] w fun e w' => ∃ y : Int, e = .returned (.int .i64 y) ∧ ∃ q, w' = w.drewN q := by
  obtain ⟨y, hy⟩ := direction_any c
  exact (hy w).mono fun e w' ⟨h1, h2⟩ => ⟨y, h1, h2⟩
theorem Se.notin {t : TP} {w w2 : World} {mb : Nat} {a c e : Int} {vo : Value} {lo l : List Nat} {f : Nat → Value × List Int} {W : World} (h : Se t w w2 mb a c e vo lo l f W) : W.heap.size ∉ l := fun hm => by
  obtain ⟨_, _, _, hk⟩ := h.q.blk _ hm
  have := blk_lt hk
  omega
set_option maxRecDepth 100000 in
set_option maxHeartbeats 4000000 in
theorem sequences_any {B : Nat} {t : TP} {xs ys : List Int} {w : World} (hx : Tx B t xs ys w) (hg : TG t) (hz : t.bN < w.heap.size ∧ t.bL < w.heap.size) (hlo : B ≤ w.heap.size) :
    Calls Try.prog 33 #[.pointer (some ⟨t.tp, 0, none⟩)] w fun e w' => Below w.heap.size w w' ∧ ∃ N v lo l f, e = .returned v ∧ w.heap.size ≤ N ∧ kPt.R 84 w' N (fun _ => True) v lo ∧ Qf t N 16384 w' l f ∧ ∀ p ∈ lo, p ∈ l := by
  have HX := Aside0.mk hx
  have HTG := Aside0.mk hg
  have hn := hg.n
  have hcs : t.cs.length = t.n := hx.lens.2.1
  have k1 : w.cell? ⟨t.tp, 1, none⟩ = some (.slice t.Af t.cs.length t.cf) := (blk_cell hx.blk 1).trans rfl
  clear hg hx
  go_enter Try.func33, Try.ntmps33
  go_wp2
  go_loopw [3, 20] (fun s3 s20 wq => ∃ (k : Int) (ks : List Int), s20 = .int .i64 k ∧ Aside0 (0 ≤ k ∧ k ≤ t.n) ∧ Aside0 (Below w.heap.size w wq) ∧ Aside0 (Kd.R (Kd.int .i64) 3 wq w.heap.size (fun _ => True) s3 ks) ∧ Aside0 ((ks.length : Int) ≤ k ∧ ∀ z ∈ ks, 0 ≤ z ∧ z < t.n)) (fun _ s20 _ => (t.n - intOf s20).toNat)
  case atStart => exact ⟨0, [], rfl, ⟨by omega⟩, ⟨Below.refl _ _⟩, ⟨Kd.R_nil _ _ _ _ _⟩, ⟨by simp⟩⟩
  case round =>
    obtain ⟨k, ks, rfl, HK, HB, HR, HI⟩ := hrel
    have hk0 := HK.out.1
    have hk2 := HK.out.2
    by_cases hkn : k < t.n
    · have hd : decide (k < t.n) = true := decide_eq_true hkn
      have hk1 : k < 9223372036854775807 := by omega
      have HLT := Aside0.mk hkn
      obtain ⟨af, haf, hci⟩ := Kd.at_int (HX.out.below HB.out).rf k hk0 (by omega)
      obtain ⟨y, hy⟩ := removed_any (rd t.cs k)
      have HY := Aside0.mk hy
      generalize rd t.cs k = c at *
      rw [haf]
      clear hy
      cases y
      · go_wp2_with (first | (go_at_call 71; ((with_reducible refine (HY.out _).mono ?_); rintro e w1 ⟨rfl, q1, rfl⟩); have HR1 := Aside0.mk (Kd.R_drewN HR.out q1); have HB1 := Aside0.mk (pw_below_drewN HB.out q1)) | ((with_reducible refine gate_builtin (b := .append) (xs := #[.tmp 28, .tmp 30]) rfl ?_); at_builtin; refine Kd.R_append (Kd.int .i64) (w0 := w) w.heap.size rfl (.tmp 28) (.tmp 30) 42 3 (.int .i64 0) 8 rfl Try.underlying42 infoInt rfl (by decide) (by omega) _ ks k [.int .i64 k] (fun _ => True) (fun _ => False) rfl rfl ?aP (fun _ hk => hk.elim) ?aF ?aO ?aB ?aS ?aL ?_; (case aP => exact rfl); (case aB => exact HB1.out); (case aF => exact (fun _ _ => trivial)); (case aO => exact HR1.out); (case aS => exact HB1.out.size); (case aL => have := HI.out.1; omega); intro v9 w9 ho hb hg hat; have HR9 := Aside0.mk ho; have HB9 := Aside0.mk hb; clear ho hb hg hat))
        exact ⟨⟨k + 1, ks ++ [k], rfl, ⟨by have := HLT.out; omega⟩, HB9, HR9, ⟨by have := HI.out.1; simp; omega, fun z hz => by
          rcases List.mem_append.mp hz with hz | hz
          · exact HI.out.2 z hz
          · rw [List.mem_singleton.mp hz]; exact ⟨hk0, HLT.out⟩⟩⟩, by have := HLT.out; simp [intOf]; omega⟩
      · go_wp2_with (go_at_call 71; ((with_reducible refine (HY.out _).mono ?_); rintro e w1 ⟨rfl, q1, rfl⟩))
        exact ⟨⟨k + 1, ks, rfl, ⟨by have := HLT.out; omega⟩, ⟨pw_below_drewN HB.out _⟩, ⟨Kd.R_drewN HR.out _⟩, ⟨by have := HI.out.1; omega, HI.out.2⟩⟩, by have := HLT.out; simp [intOf]; omega⟩
    · have hd : decide (k < t.n) = false := decide_eq_false hkn
      clear hkn
      have hmm : ∀ w, (Instr.makeMap 127 none).run Try.prog w = .ok (.map (some w.heap.size)) (w.alloc (.map #[] 0)) := fun w => by first | rfl | simp [Instr.makeMap] | exact run_makeMap _ _ _
      go_wp2
      obtain ⟨w2, hw2⟩ : ∃ x, x = wr := ⟨_, rfl⟩
      subst hw2
      obtain ⟨Ak, ck, hu3, hcap, hC⟩ := Kd.R_reads HR.out
      subst hu3
      have HKC := Aside0.mk hC
      have HKI := Aside0.mk HI.out.2
      have hkl : (ks.length : Int) ≤ 16384 := by have := HI.out.1; omega
      have hcap' : ks.length ≤ ck := hcap
      have HB2 := Aside0.mk HB.out
      clear hC HR hk0 hk2 HK hd hmm HB
      have HSe0 : Aside0 (Se t w w2 w2.heap.size 0 0 0 (.slice none 0 0) [] [] (fun _ => (.slice none 0 0, [])) (w2.alloc (.map #[] 0))) := ⟨⟨below_step HB2.out (below_alloc (Below.refl _ _) _), HB2.out.size, below_alloc (Below.refl _ _) _, Kd.R_nil _ _ _ _ _, ⟨0, _, World.ownsMap_made _ _ _ _, by simp⟩, Nat.le_refl _, ⟨by simp, by simp, by simp, by simp, by simp, by simp⟩, by simp, by omega, by simp⟩⟩
      go_loopw [6, 8] (fun s6 s8 wq => ∃ (a : Int) (lo l : List Nat) (f : Nat → Value × List Int), s8 = .int .i64 a ∧ Aside0 (0 ≤ a ∧ a ≤ ks.length) ∧ Aside0 (Se t w w2 w2.heap.size a a a s6 lo l f wq)) (fun _ s8 _ => (ks.length - intOf s8).toNat)
      case atStart => exact ⟨0, [], [], _, rfl, ⟨by omega⟩, HSe0⟩
      case round =>
        clear HSe0
        obtain ⟨a, lo, l, f, rfl, HA, HSe⟩ := hrel
        have ha0 := HA.out.1
        have ha1 := HA.out.2
        by_cases hal : a < ks.length
        · have hda : decide (a < ks.length) = true := decide_eq_true hal
          have HAL := Aside0.mk hal
          have HXr := Aside0.mk (HX.out.below HSe.out.be)
          have hCr := Kd.C_below HKC.out HSe.out.b2
          obtain ⟨ak, hak, hka⟩ := Kd.at_int hCr a ha0 hal
          have hia := HKI.out _ (rd_in ha0 hal)
          have hyl : ys.length = t.n := HXr.out.lens.2.2.2.2
          obtain ⟨cL, hvL, _⟩ := HXr.out.formL (by omega)
          have hRL := HXr.out.lev
          rw [hvL] at hRL
          have k3 : wr.cell? ⟨t.tp, 3, none⟩ = some (.slice (some ⟨t.bL, 0, none⟩) t.n cL) := by rw [← hyl, ← hvL]; exact (blk_cell HXr.out.blk 3).trans rfl
          obtain ⟨af, haf, hfa⟩ := Kd.at_int HXr.out.rf (rd ks a) hia.1 (by omega)
          have k1r : wr.cell? ⟨t.tp, 1, none⟩ = some (.slice (some af) t.cs.length t.cf) := by rw [← haf]; exact (blk_cell HXr.out.blk 1).trans rfl
          have hLa := (Kd.R_celln 0 hRL (rd ks a) hia.1 (by omega)).1
          have hia1 := hia.1
          have hia2 := hia.2
          have a9 : a < 9223372036854775807 := by omega
          subst hak
          go_upto_block 4 with fail
          go_cut [9] from 39 to 86 (fun s9 wx => ∃ (b : Int) (q : Nat), s9 = .int .i64 b ∧ Aside0 (a < b ∧ b ≤ ks.length) ∧ wx = wr.drewN q)
          case first => as_aux_lemma =>
            go_wp2_with fail
            go_loopw [9] (fun s9 wq => ∃ (b : Int) (q : Nat), s9 = .int .i64 b ∧ Aside0 (a ≤ b ∧ b ≤ ks.length) ∧ wq = wr.drewN q) (fun s9 _ => (ks.length - intOf s9).toNat)
            case atStart => exact ⟨a, 0, rfl, ⟨by omega⟩, rfl⟩
            case round =>
              obtain ⟨b, q, rfl, HBq, rfl⟩ := hrel
              have hb0 := HBq.out.1
              have hb1 := HBq.out.2
              have hbz : 0 ≤ b := by omega
              have b9 : b < 9223372036854775807 := by omega
              by_cases hbl : b < ks.length
              · have hdb : decide (b < ks.length) = true := decide_eq_true hbl
                have HBL := Aside0.mk hbl
                obtain ⟨ak', eak, hkb⟩ := Kd.at_int hCr b hbz hbl
                cases eak
                have hib := HKI.out _ (rd_in hbz hbl)
                have hLb := (Kd.R_celln 0 hRL (rd ks b) hib.1 (by omega)).1
                have hib1 := hib.1
                have hib2 := hib.2
                by_cases hba : b = a
                · subst hba
                  have hwr : IntKind.i64.wrap (b - 1) = b - 1 := IntWalk.i64_in _ (by omega)
                  generalize rdOf 0 ys (rd ks b) = lb at *
                  generalize rd ks b = zb at *
                  clear hRL hCr hib hkb hLb hvL
                  go_wp2
                  refine wp_region_quiet_lit (by kernel_rfl) (by kernel_rfl) ?_
                  repeat (first | rw [hwr] | go_big_quiet_step (fail))
                  refine wpQuiet_nil ?_
                  intro _ hw'
                  obtain ⟨nq, hw''⟩ := hw'
                  subst hw''
                  go_wp2
                  exact ⟨⟨b + 1, _, rfl, ⟨by have := HBL.out; omega⟩, by first | rfl | rw [World.drewN_drewN]⟩, by have := HBL.out; simp [intOf]; omega⟩
                · have hdba : (b == a) = false := by simpa using hba
                  have hpl : b - 1 < ks.length := by omega
                  obtain ⟨ak', eak, hkp⟩ := Kd.at_int hCr (b - 1) (by omega) hpl
                  cases eak
                  have hip := HKI.out _ (rd_in (by omega) hpl)
                  rw [show (b - 1).toNat = b.toNat - 1 by omega] at hkp
                  obtain ⟨af', eaf, hfp⟩ := Kd.at_int HXr.out.rf (rd ks (b - 1)) hip.1 (by omega)
                  rw [haf] at eaf
                  cases eaf
                  have hip1 := hip.1
                  have hip2 : rd ks (b - 1) < t.cs.length := by omega
                  have hwr : IntKind.i64.wrap (b - 1) = b - 1 := IntWalk.i64_in _ (by omega)
                  have hp1 : 0 ≤ b - 1 := by omega
                  obtain ⟨d1, e1⟩ : ∃ d, (rdOf 0 ys (rd ks b) == rdOf 0 ys (rd ks a)) = d := ⟨_, rfl⟩
                  obtain ⟨d2, e2⟩ : ∃ d, (rd t.cs (rd ks (b - 1)) != 10) = d := ⟨_, rfl⟩
                  generalize rdOf 0 ys (rd ks b) = lb at *
                  generalize rdOf 0 ys (rd ks a) = la at *
                  generalize rd t.cs (rd ks (b - 1)) = cp at *
                  generalize rd ks (b - 1) = zp at *
                  generalize rd ks b = zb at *
                  clear hRL hCr hib hip hvL
                  cases d1
                  · go_wp2
                    refine wp_region_quiet_lit (by kernel_rfl) (by kernel_rfl) ?_
                    repeat (first | rw [hwr] | go_big_quiet_step (fail))
                    refine wpQuiet_nil ?_
                    intro _ hw'
                    obtain ⟨nq, hw''⟩ := hw'
                    subst hw''
                    go_wp2
                    go_meet
                    exact ⟨b, _, rfl, ⟨by omega⟩, by first | rfl | rw [World.drewN_drewN]⟩
                  · cases d2
                    · go_wp2
                      refine wp_region_quiet_lit (by kernel_rfl) (by kernel_rfl) ?_
                      repeat (first | rw [hwr] | go_big_quiet_step (fail))
                      refine wpQuiet_nil ?_
                      intro _ hw'
                      obtain ⟨nq, hw''⟩ := hw'
                      subst hw''
                      go_wp2
                      go_meet
                      exact ⟨b, _, rfl, ⟨by omega⟩, by first | rfl | rw [World.drewN_drewN]⟩
                    · go_wp2
                      refine wp_region_quiet_lit (by kernel_rfl) (by kernel_rfl) ?_
                      repeat (first | rw [hwr] | go_big_quiet_step (fail))
                      refine wpQuiet_nil ?_
                      intro _ hw'
                      obtain ⟨nq, hw''⟩ := hw'
                      subst hw''
                      go_wp2
                      exact ⟨⟨b + 1, _, rfl, ⟨by have := HBL.out; omega⟩, by first | rfl | rw [World.drewN_drewN]⟩, by have := HBL.out; simp [intOf]; omega⟩
              · have hdb : decide (b < ks.length) = false := decide_eq_false hbl
                have hwr : IntKind.i64.wrap (b - 1) = b - 1 := IntWalk.i64_in _ (by omega)
                have hbe : a < b := by omega
                clear hbl hRL hCr hvL
                go_wp2
                refine wp_region_quiet_lit (by kernel_rfl) (by kernel_rfl) ?_
                repeat (first | rw [hwr] | go_big_quiet_step (fail))
                refine wpQuiet_nil ?_
                intro _ hw'
                obtain ⟨nq, hw''⟩ := hw'
                subst hw''
                go_wp2
                go_meet
                exact ⟨b, _, rfl, ⟨by omega⟩, by first | rfl | rw [World.drewN_drewN]⟩
          case rest => as_aux_lemma =>
            obtain ⟨b, q, rfl, HBq, rfl⟩ := hcut
            have hab := HBq.out.1
            have hb1 := HBq.out.2
            have hbz : 0 ≤ b := by omega
            have b9 : b < 9223372036854775807 := by omega
            have HSq := Aside0.mk (HSe.out.drewN q)
            have FX : Aside0 (∀ {c' a' e' : Int} {vo' : Value} {lo' l' : List Nat} {f' : Nat → Value × List Int} {W : World}, Se t w w2 w2.heap.size a' c' e' vo' lo' l' f' W → (W.cell? ⟨t.tp, 1, none⟩ = some (.slice (some af) t.cs.length t.cf) ∧ W.cell? ⟨t.tp, 3, none⟩ = some (.slice (some ⟨t.bL, 0, none⟩) t.n cL) ∧ W.cell? ⟨t.tp, 4, none⟩ = some (.slice t.Am t.ms.length t.cm) ∧ W.cell? ⟨t.tp, 5, none⟩ = some (.int .i64 t.bs)) ∧ (∀ z : Int, 0 ≤ z → z < t.n → W.cell? ⟨t.bL, z.toNat, none⟩ = some (.int .i64 (rdOf 0 ys z))) ∧ (∀ z : Int, 0 ≤ z → z < t.n → W.cell? (af.add z.toNat) = some (.int .i64 (rd t.cs z))) ∧ (∀ z : Int, 0 ≤ z → z < ks.length → W.cell? (ak.add z.toNat) = some (.int .i64 (rd ks z)))) := ⟨by
              intro c' a' e' vo' lo' l' f' W hS
              have hX := HX.out.below hS.be
              have hL := hX.lev
              rw [hvL] at hL
              refine ⟨⟨by rw [← haf]; exact (blk_cell hX.blk 1).trans rfl, by rw [← hyl, ← hvL]; exact (blk_cell hX.blk 3).trans rfl, (blk_cell hX.blk 4).trans rfl, (blk_cell hX.blk 5).trans rfl⟩, fun z h0 h1 => (Kd.R_celln 0 hL z h0 (by omega)).1, fun z h0 h1 => ?_, fun z h0 h1 => ?_⟩
              · obtain ⟨af', e, hz⟩ := Kd.at_int hX.rf z h0 (by omega)
                rw [haf] at e; cases e; exact hz
              · obtain ⟨ak', e, hz⟩ := Kd.at_int (Kd.C_below HKC.out hS.b2) z h0 h1
                cases e; exact hz⟩
            have hwr : IntKind.i64.wrap (a - 1) = a - 1 := IntWalk.i64_in _ (by omega)
            generalize wr.drewN q = wq at *
            clear hRL hCr hvL hka hLa hfa k1r k3 HXr HSe haf
            have ⟨⟨f1, f3, f4, f5⟩, fL, fF, fK⟩ := FX.out HSq.out
            have hka := fK a ha0 hal
            have hpr : 0 < a → 0 ≤ rd ks (a - 1) ∧ rd ks (a - 1) < t.n := fun h => HKI.out _ (rd_in (by omega) (by omega))
            go_upto_region 17 with fail
            go_cut [110] from 95 to 110 (fun s110 wx => ∃ (d : Bool) (q : Nat), s110 = .bool d ∧ Aside0 (d = true → 0 < a) ∧ wx = wq.drewN q)
            case first => as_aux_lemma =>
              by_cases hap : 0 < a
              · have hdap : decide (0 < a) = true := decide_eq_true hap
                obtain ⟨hp0, hp1⟩ := hpr hap
                have hpk := fK (a - 1) (by omega) (by omega)
                rw [show (a - 1).toNat = a.toNat - 1 by omega] at hpk
                have hpf := fF _ hp0 hp1
                have hpl : a - 1 < ks.length := by omega
                have hp1' : rd ks (a - 1) < t.cs.length := by omega
                obtain ⟨d2, e2⟩ : ∃ d, (rd t.cs (rd ks (a - 1)) != 10) = d := ⟨_, rfl⟩
                generalize rd t.cs (rd ks (a - 1)) = cp at *
                generalize rd ks (a - 1) = zp at *
                clear hpr fL fF fK
                refine wp_region_quiet_lit (by kernel_rfl) (by kernel_rfl) ?_
                repeat (first | rw [hwr] | go_big_quiet_step (fail))
                refine wpQuiet_nil ?_
                intro _ hw'
                obtain ⟨nq, hw''⟩ := hw'
                subst hw''
                go_wp2_with fail
                go_meet
                exact ⟨d2, nq, rfl, ⟨fun _ => hap⟩, rfl⟩
              · have hdap : decide (0 < a) = false := decide_eq_false hap
                clear hpr fL fF fK
                refine wp_region_quiet_lit (by kernel_rfl) (by kernel_rfl) ?_
                repeat (first | rw [hwr] | go_big_quiet_step (fail))
                refine wpQuiet_nil ?_
                intro _ hw'
                obtain ⟨nq, hw''⟩ := hw'
                subst hw''
                go_wp2_with fail
                go_meet
                exact ⟨false, nq, rfl, ⟨fun h => by cases h⟩, rfl⟩
            case rest => as_aux_lemma =>
              obtain ⟨d, q, rfl, HD, rfl⟩ := hcut
              go_upto_if 110 with fail
              go_cut [11] from 111 to 121 (fun s11 wx => ∃ (hh : Int) (q : Nat), s11 = .int .i64 hh ∧ wx = wq.drewN q)
              case first => as_aux_lemma =>
                cases d
                · go_wp2_with fail
                  go_meet
                  exact ⟨_, q, rfl, rfl⟩
                · have hap := HD.out rfl
                  obtain ⟨hp0, hp1⟩ := hpr hap
                  have hpk := fK (a - 1) (by omega) (by omega)
                  rw [show (a - 1).toNat = a.toNat - 1 by omega] at hpk
                  have hpl : a - 1 < ks.length := by omega
                  have hpL := fL _ hp0 hp1
                  generalize rdOf 0 ys (rd ks (a - 1)) = lp at *
                  generalize rd ks (a - 1) = zp at *
                  clear hpr fL fF fK
                  go_wp2_with fail
                  refine wp_region_quiet_lit (by kernel_rfl) (by kernel_rfl) ?_
                  repeat (first | rw [hwr] | go_big_quiet_step (fail))
                  refine wpQuiet_nil ?_
                  intro _ hw'
                  obtain ⟨nq, hw''⟩ := hw'
                  subst hw''
                  go_wp2_with fail
                  go_meet
                  exact ⟨_, _, rfl, by first | rfl | rw [World.drewN_drewN]⟩
              case rest => as_aux_lemma =>
                obtain ⟨hh, q, rfl, rfl⟩ := hcut
                have HSq2 := Aside0.mk (HSq.out.drewN q)
                clear f1 f3 f4 f5 fL fF fK hka HSq
                generalize wq.drewN q = wx at *
                have ⟨⟨f1, f3, f4, f5⟩, fL, fF, fK⟩ := FX.out HSq2.out
                have hka := fK a ha0 hal
                obtain ⟨nm, Dm, hm, hmn⟩ := HSq2.out.mp
                obtain ⟨v, ps, hrun, hv⟩ := hm.lookup (Maps.int_keyed Try.underlying3) Try.underlying127 (z := .pointer none) (by rfl) (zd := .lit (.bool false)) (zp := []) rfl (Maps.keyOf_int_mk Try.underlying3 (q := .i64) (a := rd ks a) (wf64 (by omega) (by omega)))
                have HV := Aside0.mk (rdS_inv hv)
                clear hm hv
                go_upto_region 20 with fail
                go_cut [128] from 127 to 128 (fun s128 wy => ∃ (d : Bool), s128 = .bool d ∧ Aside0 ((d = true ∧ v = .pointer none) ∨ (d = false ∧ ∃ sp ∈ l, v = .pointer (some ⟨sp, 0, none⟩))) ∧ wy = wx)
                case first => as_aux_lemma =>
                  rcases HV.out with hvv | ⟨sp, hsp, hvv⟩
                  · subst hvv
                    go_wp2_with fail
                    go_meet
                    exact ⟨_, rfl, ⟨.inl ⟨by first | rfl | trivial, by first | rfl | trivial⟩⟩, rfl⟩
                  · subst hvv
                    go_wp2_with fail
                    go_meet
                    exact ⟨_, rfl, ⟨.inr ⟨by first | rfl | trivial, sp, hsp, by first | rfl | trivial⟩⟩, rfl⟩
                case rest => as_aux_lemma =>
                  obtain ⟨dd, rfl, HV2, rfl⟩ := hcut
                  clear hrun HV
                  go_upto_if 128 with fail
                  go_cut [6, 12] from 129 to 154 (fun s6 s12 wy => ∃ (sp : Nat) (lo l : List Nat) (f : Nat → Value × List Int), s12 = .pointer (some ⟨sp, 0, none⟩) ∧ Aside0 (sp ∈ l) ∧ Aside0 (Se t w w2 w2.heap.size a (a + 1) a s6 lo l f wy))
                  case first => as_aux_lemma =>
                    rcases HV2.out with ⟨rfl, rfl⟩ | ⟨rfl, sp, hsp, rfl⟩
                    · have hLa := fL _ hia1 hia2
                      generalize rdOf 0 ys (rd ks a) = la at *
                      generalize rd ks a = za at *
                      clear hpr fL fF fK
                      go_upto_region 21 with fail
                      refine wp_region_quiet_tail 11 (by kernel_rfl) (by kernel_rfl) ?_
                      simp only [List.take_succ_cons, List.take_zero, List.drop_succ_cons, List.drop_zero]
                      repeat (first | go_big_quiet_skip | (go_big_quiet_want; go_big_quiet_op; go_big_quiet_on))
                      refine wpQuiet_nil ?_
                      go_upto_region 22 with fail
                      obtain ⟨f', hS'⟩ := HSq2.out.new la HSq2.out.notin
                      have HS21 := Aside0.mk (hS'.below (below_drew (Below.refl _ _)))
                      have HM : Aside0 (_ ∈ l ++ [_]) := ⟨List.mem_append.mpr (.inr (List.mem_singleton.mpr (rfl : wc.heap.size = wc.heap.size)))⟩
                      clear hS' hLa f1 f3 f4 f5 hka
                      generalize (wc.alloc (.cells #[.pointer (some ⟨t.tp, 0, none⟩), .slice none 0 0, .int .i64 la, .int .i64 0, .int .i64 0] 129)).drew = w21 at *
                      generalize wc.heap.size = sn at *
                      obtain ⟨lv0, st0, en0, hk0⟩ := HS21.out.q.blk _ HM.out
                      have g2 : w21.cell? ⟨sn, 2, none⟩ = some (.int .i64 lv0) := (blk_cell hk0 2).trans rfl
                      have g3 : w21.cell? ⟨sn, 3, none⟩ = some (.int .i64 st0) := (blk_cell hk0 3).trans rfl
                      have gf := blk_frozen hk0 3
                      clear hk0
                      go_upto_region 23 with (go_at_call 72; ((with_reducible refine Calls.mono (direction_ex _ _) ?_); rintro e w5 ⟨y5, rfl, q5, rfl⟩; have HS22 := Aside0.mk ((HS21.out.drewN q5).setF HM.out 3 (.inl rfl) y5)))
                      generalize (w21.drewN q5).setCell ⟨sn, 3, none⟩ (.int .i64 y5) = w22 at *
                      clear HS21 g2 g3 gf
                      obtain ⟨Ao, co, hvo, _, _⟩ := Kd.R_reads HS22.out.out
                      subst hvo
                      have hll := HS22.out.len
                      go_wp2_with ((with_reducible refine gate_builtin (b := .append) (xs := #[.tmp 151, .tmp 153]) rfl ?_); at_builtin; refine Kd.R_append kPt (w0 := w22) w2.heap.size rfl (.tmp 151) (.tmp 153) 82 84 (.pointer none) 8 rfl Try.underlying82 infoPt rfl (by decide) (by omega) _ lo sn [.pointer (some ⟨sn, 0, none⟩)] (fun _ => True) (fun _ => False) rfl rfl ?aP (fun _ hk => hk.elim) ?aF ?aO ?aB ?aS ?aL ?_; (case aP => exact rfl); (case aB => exact Below.refl _ _); (case aF => exact (fun _ _ => trivial)); (case aO => exact HS22.out.out); (case aS => exact HS22.out.b2.size); (case aL => omega); intro v9 w9 ho hb hg hat; have HS23 := Aside0.mk (HS22.out.app HM.out ho hb hg); clear ho hb hg hat)
                      go_meet
                      exact ⟨sn, _, _, f', rfl, HM, HS23⟩
                    · go_wp2_with fail
                      go_meet
                      exact ⟨sp, lo, l, f, rfl, ⟨hsp⟩, ⟨HSq2.out.mono (Int.le_refl _) (by omega) (Int.le_refl _)⟩⟩
                  case rest => as_aux_lemma =>
                    clear HSq2 hmn HV2 f1 f3 f4 f5 fL fF fK hka
                    obtain ⟨sp, lo, l, f, rfl, HM, HSx⟩ := hcut
                    obtain ⟨lv0, st0, en0, hk0⟩ := HSx.out.q.blk _ HM.out
                    have hrow := HSx.out.q.row _ HM.out
                    have hlen := HSx.out.q.len _ HM.out
                    obtain ⟨A0, n0, hv0, _, _⟩ := Kd.R_reads hrow
                    have g1 : wc.cell? ⟨sp, 1, none⟩ = some (.slice A0 (f sp).2.length n0) := by rw [← hv0]; exact (blk_cell hk0 1).trans rfl
                    have gf1 := blk_frozen hk0 1
                    have HRow := Aside0.mk hrow
                    have HV0 := Aside0.mk hv0
                    have HRun := Aside0.mk (run_C (Kd.C_below HKC.out HSx.out.b2) ha0 hab hb1 hcap')
                    have HRI : Aside0 (∀ z ∈ (ks.take b.toNat).drop a.toNat, 0 ≤ z ∧ z < t.n) := ⟨fun z hz => HKI.out z (List.mem_of_mem_take (List.mem_of_mem_drop hz))⟩
                    have HRL : Aside0 ((((ks.take b.toNat).drop a.toNat).length : Int) ≤ b - a) := ⟨by rw [List.length_drop, List.length_take]; omega⟩
                    clear hk0 hrow hv0
                    go_upto_region 25 with ((with_reducible refine gate_builtin (b := .append) (xs := #[.tmp 159, .tmp 160]) rfl ?_); at_builtin; refine Kd.R_append_rows (Kd.int .i64) (Rr := (Kd.int .i64).K wc) (w0 := wc) w2.heap.size rfl (.tmp 159) (.tmp 160) 42 3 (.int .i64 0) 8 rfl Try.underlying42 infoInt rfl (by decide) (by omega) (f sp).1 (f sp).2 ((ks.take b.toNat).drop a.toNat) (some (ak.add a.toNat)) (b.toNat - a.toNat) (ck - a.toNat) (fun _ => True) (fun _ => False) (by rw [HV0.out]; rfl) rfl ?aO ?aR ?aK (fun _ hk => hk.elim) ?aF ?aB ?aS ?aL ?_; (case aO => exact HRow.out); (case aR => exact HRun.out); (case aK => exact fun _ _ hk => hk); (case aB => exact Below.refl _ _); (case aF => exact (fun _ _ => trivial)); (case aS => exact HSx.out.b2.size); (case aL => omega); intro v9 w9 ho hb hg hat; obtain ⟨A9, c9, rfl⟩ := Kd.R_slice ho; have hh := HSx.out.push (a' := b) HM.out ho hb hg hat HRI.out HRL.out; have hq := hh.q.blk _ HM.out; have HS24 := Aside0.mk hh; obtain ⟨⟨vv, k9, hvv⟩, g9⟩ := HSx.out.blk9 HM.out hg; rw [HV0.out] at hvv; subst hvv; clear ho hb hg hat hh hq)
                    have HSy : Aside0 (∃ f', Se t w w2 w2.heap.size b (a + 1) a _ lo l f' (w9.setCell ⟨sp, 1, none⟩ (.slice A9 ((f sp).2.length + (b.toNat - a.toNat)) c9))) := ⟨by
                      have hh := HS24.out
                      rw [show ((f sp).2 ++ (ks.take b.toNat).drop a.toNat).length = (f sp).2.length + (b.toNat - a.toNat) by rw [List.length_append, List.length_drop, List.length_take]; omega] at hh
                      exact ⟨_, hh⟩⟩
                    clear HS24 HRun HRI HRL HRow HV0 HSx g1 gf1 k9 g9 hlen
                    generalize w9.setCell ⟨sp, 1, none⟩ (.slice A9 ((f sp).2.length + (b.toNat - a.toNat)) c9) = w25 at *
                    obtain ⟨f', hSy⟩ := HSy.out
                    have HSz := Aside0.mk hSy
                    clear HSy hSy
                    have ⟨⟨f1, f3, f4, f5⟩, fL, fF, fK⟩ := FX.out HSz.out
                    have hzl := HKI.out _ (rd_in (show 0 ≤ b - 1 by omega) (show b - 1 < (ks.length : Int) by omega))
                    have hlast := fK (b - 1) (by omega) (by omega)
                    obtain ⟨m, hmm⟩ : ∃ m, b.toNat - a.toNat = m := ⟨_, rfl⟩
                    have hm1 : (1 : Int) ≤ m := by omega
                    have hm2 : (m : Int) ≤ 16384 := by omega
                    rw [show (b - 1).toNat = a.toNat + (m - 1) by omega, ← add_add] at hlast
                    have hwr2 : IntKind.i64.wrap ((m : Int) - 1) = m - 1 := IntWalk.i64_in _ (by omega)
                    have hzl0 := hzl.1
                    have hzl1 := hzl.2
                    have hzlf := fF _ hzl0 hzl1
                    obtain ⟨yo, hyo⟩ := opener_any (rd t.cs (rd ks (b - 1)))
                    have HO := Aside0.mk hyo
                    rw [hmm]
                    generalize hzz : rd ks (b - 1) = zl at *
                    clear hzl hyo hzz
                    go_upto_region 27 with fail
                    go_cut [198] from 174 to 198 (fun s198 wx => ∃ (d : Bool) (q : Nat), s198 = .bool d ∧ Aside0 (d = true → b < ks.length) ∧ wx = w25.drewN q)
                    case first => as_aux_lemma =>
                      obtain ⟨d2, e2⟩ : ∃ d, (rd t.cs zl != 10) = d := ⟨_, rfl⟩
                      generalize rd t.cs zl = cz at *
                      clear fL fF fK hpr
                      by_cases hbl : b < ks.length
                      · have hdbl : decide (b < ks.length) = true := decide_eq_true hbl
                        have HBL := Aside0.mk hbl
                        cases yo <;> cases d2
                        all_goals
                        (go_wp2_with (go_at_call 64; ((with_reducible refine (HO.out _).mono ?_); rintro e w5 ⟨rfl, q5, rfl⟩))
                         go_meet
                         first | exact ⟨_, 0, rfl, ⟨fun _ => HBL.out⟩, rfl⟩ | exact ⟨_, _, rfl, ⟨fun _ => HBL.out⟩, rfl⟩)
                      · have hdbl : decide (b < ks.length) = false := decide_eq_false hbl
                        clear hbl
                        go_wp2_with fail
                        go_meet
                        exact ⟨false, 0, rfl, ⟨fun h => by cases h⟩, rfl⟩
                    case rest => as_aux_lemma =>
                      obtain ⟨d27, q27, rfl, HD27, rfl⟩ := hcut
                      go_upto_if 198 with fail
                      go_cut [14] from 199 to 208 (fun s14 wx => ∃ (hh : Int) (q : Nat), s14 = .int .i64 hh ∧ wx = w25.drewN q)
                      case first => as_aux_lemma =>
                        cases d27
                        · go_wp2_with fail
                          go_meet
                          exact ⟨_, q27, rfl, rfl⟩
                        · have hbl := HD27.out rfl
                          obtain ⟨hp0, hp1⟩ := HKI.out _ (rd_in hbz hbl)
                          have hpk := fK b hbz hbl
                          have hpL := fL _ hp0 hp1
                          generalize rdOf 0 ys (rd ks b) = lp at *
                          generalize rd ks b = zp at *
                          clear hpr fL fF fK
                          go_wp2_with fail
                          refine wp_region_quiet_lit (by kernel_rfl) (by kernel_rfl) ?_
                          repeat (first | rw [hwr] | go_big_quiet_step (fail))
                          refine wpQuiet_nil ?_
                          intro _ hw'
                          obtain ⟨nq, hw''⟩ := hw'
                          subst hw''
                          go_wp2_with fail
                          go_meet
                          exact ⟨_, _, rfl, by first | rfl | rw [World.drewN_drewN]⟩
                      case rest => as_aux_lemma =>
                        obtain ⟨h14, q28, rfl, rfl⟩ := hcut
                        have HSw := Aside0.mk (HSz.out.drewN q28)
                        obtain ⟨lv0, st0, en0, hk0⟩ := HSw.out.q.blk _ HM.out
                        have g2 : (w25.drewN q28).cell? ⟨sp, 2, none⟩ = some (.int .i64 lv0) := (blk_cell hk0 2).trans rfl
                        have g4 : (w25.drewN q28).cell? ⟨sp, 4, none⟩ = some (.int .i64 en0) := (blk_cell hk0 4).trans rfl
                        have gf := blk_frozen hk0 4
                        clear hk0 f1 f3 f4 f5 fL fF fK hlast hzlf HSz
                        generalize w25.drewN q28 = w28 at *
                        go_upto_region 30 with (go_at_call 72; ((with_reducible refine Calls.mono (direction_ex _ _) ?_); rintro e w5 ⟨y5, rfl, q5, rfl⟩; have HS29 := Aside0.mk ((HSw.out.drewN q5).setF HM.out 4 (.inr rfl) y5)))
                        generalize (w28.drewN q5).setCell ⟨sp, 4, none⟩ (.int .i64 y5) = w29 at *
                        clear HSw g2 g4 gf
                        have ⟨⟨f1, f3, f4, f5⟩, fL, fF, fK⟩ := FX.out HS29.out
                        have hzlf := fF _ hzl0 hzl1
                        have hX29 := HX.out.below HS29.out.be
                        have hms : t.ms.length = t.n := hX29.lens.2.2.1
                        obtain ⟨am, ham, hmz⟩ := Kd.at_int hX29.rm zl hzl0 (by omega)
                        rw [ham] at f4
                        have hup := HTG.out.up zl hzl0 hzl1
                        have hzm : zl < t.ms.length := by omega
                        have hzc : zl < t.cs.length := by omega
                        clear hX29 ham
                        go_cut [236] from 219 to 236 (fun s236 wx => ∃ (d : Bool) (q : Nat), s236 = .bool d ∧ Aside0 (d = true → 0 ≤ rd t.ms zl) ∧ wx = w29.drewN q)
                        case first => as_aux_lemma =>
                          generalize rd t.cs zl = cz at *
                          by_cases hmn0 : 0 ≤ rd t.ms zl
                          · have hdm : decide (0 ≤ rd t.ms zl) = true := decide_eq_true hmn0
                            have HMN := Aside0.mk hmn0
                            generalize rd t.ms zl = mz at *
                            clear fL fF fK hpr
                            cases yo
                            all_goals
                            (go_wp2_with (go_at_call 64; ((with_reducible refine (HO.out _).mono ?_); rintro e w5 ⟨rfl, q5, rfl⟩))
                             go_meet
                             exact ⟨_, _, rfl, ⟨fun _ => HMN.out⟩, rfl⟩)
                          · have hdm : decide (0 ≤ rd t.ms zl) = false := decide_eq_false hmn0
                            clear fL fF fK hpr
                            generalize rd t.ms zl = mz at *
                            cases yo
                            all_goals
                            (go_wp2_with (go_at_call 64; ((with_reducible refine (HO.out _).mono ?_); rintro e w5 ⟨rfl, q5, rfl⟩))
                             go_meet
                             exact ⟨_, _, rfl, ⟨fun h => by cases h⟩, rfl⟩)
                        case rest => as_aux_lemma =>
                          obtain ⟨d30, q30, rfl, HD30, rfl⟩ := hcut
                          have HS30 := Aside0.mk (HS29.out.drewN q30)
                          have hmz' : (w29.drewN q30).cell? (am.add zl.toNat) = some (.int .i64 (rd t.ms zl)) := hmz
                          have f4' : (w29.drewN q30).cell? ⟨t.tp, 4, none⟩ = some (.slice (some am) t.ms.length t.cm) := f4
                          clear f1 f3 f4 f5 fL fF fK hpr hzlf hmz HS29
                          generalize w29.drewN q30 = w30 at *
                          cases d30
                          · go_wp2_with fail
                            exact ⟨⟨b, lo, l, _, rfl, ⟨by omega⟩, ⟨HS30.out.mono (Int.le_refl _) (by omega) (by omega)⟩⟩, by simp [intOf]; omega⟩
                          · have hm0 := HD30.out rfl
                            obtain ⟨nm2, Dm2, hmo, hmn2⟩ := HS30.out.mp
                            have hkey := Maps.keyOf_int_mk Try.underlying3 (q := .i64) (a := rd t.ms zl) (wf64 (by omega) (by omega))
                            obtain ⟨w31, hrun, hown, hgr⟩ := hmo.update (Maps.int_keyed Try.underlying3) Try.underlying127 (Nat.lt_of_le_of_lt (show nm2 ≤ 16384 by omega) (by decide)) hkey (rdS_mk HM.out)
                            have HS31 := Aside0.mk (HS30.out.put hown hgr (e' := b) (by omega))
                            generalize rd t.ms zl = mz at *
                            clear hmo hkey hown hgr
                            go_wp2_with fail
                            exact ⟨⟨b, lo, l, _, rfl, ⟨by omega⟩, ⟨HS31.out.mono (Int.le_refl _) (by omega) (Int.le_refl _)⟩⟩, by simp [intOf]; omega⟩
        · have hda : decide (a < ks.length) = false := decide_eq_false hal
          clear hal
          go_wp2
          go_ret
          exact ⟨HSe.out.be, w2.heap.size, _, lo, l, f, rfl, HSe.out.bw, HSe.out.out, (HSe.out.mono (a' := 16384) (c' := a) (e' := a) (by omega) (Int.le_refl _) (Int.le_refl _)).q, HSe.out.sub⟩
end Go.Proofs.Yteoonjnmghponaa.F
namespace Go.Proofs.Yteoonjnmghponaa.F
open Go.RowKit Go.Proofs.YteoonjnmghponaaW.PrintWords Go.Proofs.YteoonjnmghponaaW.PrintLast Go.Proofs.YteoonjnmghponaaW.PrintMore
set_option linter.unusedVariables false
set_option linter.unusedSimpArgs false
/-- A text in memory; what may have changed. -/
structure Te (B : Nat) (t : TP) (w W : World) : Prop where
  tx : ∃ xs ys, Tx B t xs ys W
  ch : Ch B t w W
  lo : B ≤ W.heap.size
section
variable {B : Nat} {t : TP} {w W W' : World}
theorem Te.below (h : Te B t w W) (hb : Below W.heap.size W W') : Te B t w W' := by
  obtain ⟨xs, ys, hx⟩ := h.tx
  exact ⟨⟨xs, ys, hx.below hb⟩, h.ch.below h.lo hb, Nat.le_trans h.lo hb.size⟩
theorem Te.drewN (h : Te B t w W) (q : Nat) : Te B t w (W.drewN q) := h.below (pw_below_drewN (Below.refl _ _) q)
theorem Te.setL (h : Te B t w W) (z c : Int) (h0 : 0 ≤ z) (h1 : z < t.n) : Te B t w (W.setCell ⟨t.bL, z.toNat, none⟩ (.int .i64 c)) := by
  obtain ⟨xs, ys, hx⟩ := h.tx
  have hc := Ch.setL (z := z) (v := .int .i64 c) hx (by omega)
  exact ⟨⟨_, _, hx.setL z c h0 h1⟩, h.ch.trans hc, Nat.le_trans h.lo hc.size⟩
theorem Te.cells (h : Te B t w W) (i : Int) (h0 : 0 ≤ i) (h1 : i < t.n) :
    W.cell? ⟨t.tp, 5, none⟩ = some (.int .i64 t.bs) ∧ (∃ af : Addr, W.cell? ⟨t.tp, 1, none⟩ = some (.slice (some af) t.n t.cf) ∧ W.cell? (af.add i.toNat) = some (.int .i64 (rd t.cs i))) ∧ (∃ c y, W.cell? ⟨t.tp, 3, none⟩ = some (.slice (some ⟨t.bL, 0, none⟩) t.n c) ∧ W.cell? ⟨t.bL, i.toNat, none⟩ = some (.int .i64 y) ∧ W.frozen? ⟨t.bL, i.toNat, none⟩ = false) := by
  obtain ⟨xs, ys, hx⟩ := h.tx
  have hyl : ys.length = t.n := hx.lens.2.2.2.2
  have hcl : t.cs.length = t.n := hx.lens.2.1
  obtain ⟨c, hv, _⟩ := hx.formL (by omega)
  have hL := hx.lev
  rw [hv] at hL
  obtain ⟨l1, l2⟩ := Kd.R_celln 0 hL i h0 (by omega)
  obtain ⟨af, haf, hf⟩ := Kd.at_int hx.rf i h0 (by omega)
  refine ⟨(blk_cell hx.blk 5).trans rfl, ⟨af, ?_, hf⟩, c, _, ?_, l1, l2⟩
  · rw [← haf, ← hcl]; exact (blk_cell hx.blk 1).trans rfl
  · rw [← hyl, ← hv]; exact (blk_cell hx.blk 3).trans rfl
end
set_option maxRecDepth 100000 in
set_option maxHeartbeats 4000000 in
theorem ends_any {B : Nat} {t : TP} {w : World} (h : Te B t w w) (hn : t.n ≤ 16384) :
    Calls Try.prog 37 #[.pointer (some ⟨t.tp, 0, none⟩)] w fun e w' => e = .returned (.tuple #[]) ∧ Te B t w w' := by
  obtain ⟨xs, ys, hx⟩ := h.tx
  have hcs : t.cs.length = t.n := hx.lens.2.1
  have k1 : w.cell? ⟨t.tp, 1, none⟩ = some (.slice t.Af t.n t.cf) := by rw [← hcs]; exact (blk_cell hx.blk 1).trans rfl
  have k5 : w.cell? ⟨t.tp, 5, none⟩ = some (.int .i64 t.bs) := (blk_cell hx.blk 5).trans rfl
  have HT := Aside0.mk h
  clear hx h hcs
  go_enter Try.func37, Try.ntmps37
  go_wp2
  go_loopw [2, 17] (fun s2 s17 wq => ∃ (la k : Int), s2 = .int .i64 la ∧ s17 = .int .i64 k ∧ Aside0 (0 ≤ k ∧ k ≤ t.n) ∧ Aside0 (Te B t w wq)) (fun _ s17 _ => (t.n - intOf s17).toNat)
  case atStart => exact ⟨_, 0, rfl, rfl, ⟨by omega⟩, HT⟩
  case round =>
    obtain ⟨la, k, rfl, rfl, HK, HS⟩ := hrel
    have hk0 := HK.out.1
    by_cases hkn : k < t.n
    · have hd : decide (k < t.n) = true := decide_eq_true hkn
      have HLT := Aside0.mk hkn
      have hk1 : k < 9223372036854775807 := by omega
      obtain ⟨_, _, ⟨cL, yL, g1, g2, g3⟩⟩ := HS.out.cells k hk0 hkn
      obtain ⟨xs, ys, hx⟩ := HS.out.tx
      obtain ⟨af, haf, hci⟩ := Kd.at_int hx.rf k hk0 (by have := hx.lens; omega)
      obtain ⟨y, hy⟩ := removed_any (rd t.cs k)
      have HY := Aside0.mk hy
      have hne : t.tp ≠ t.bL := by
        obtain ⟨_, _, _, cells, hc⟩ := hx.formL (by omega)
        exact blk_ne hx.blk hc (by decide)
      have j3 : ∀ q, ((wr.drewN q).setCell ⟨t.bL, k.toNat, none⟩ (.int .i64 la)).cell? ⟨t.tp, 3, none⟩ = some (.slice (some ⟨t.bL, 0, none⟩) t.n cL) := fun q => (World.cell?_of_block (w := wr.drewN q) (Below.heap_setCell (wr.drewN q) ⟨t.bL, k.toNat, none⟩ _ t.tp hne)).trans g1
      generalize rd t.cs k = c at *
      rw [haf]
      clear hy hx
      cases y
      all_goals
      (go_wp2_with (go_at_call 71; ((with_reducible refine (HY.out _).mono ?_); rintro e w1 ⟨rfl, q1, rfl⟩))
       first
         | exact ⟨⟨_, k + 1, rfl, rfl, ⟨by have := HLT.out; omega⟩, ⟨HS.out.drewN _⟩⟩, by have := HLT.out; simp [intOf]; omega⟩
         | exact ⟨⟨_, k + 1, rfl, rfl, ⟨by have := HLT.out; omega⟩, ⟨(HS.out.drewN _).setL k _ hk0 HLT.out⟩⟩, by have := HLT.out; simp [intOf]; omega⟩)
    · have hd : decide (k < t.n) = false := decide_eq_false hkn
      have k1' : wr.cell? ⟨t.tp, 1, none⟩ = some (.slice t.Af t.n t.cf) := by
        obtain ⟨xs, ys, hx⟩ := HS.out.tx
        have hcl : t.cs.length = t.n := hx.lens.2.1
        rw [← hcl]; exact (blk_cell hx.blk 1).trans rfl
      clear hkn k1 k5 HT
      have hn1 : (t.n : Int) ≤ 16384 := by omega
      go_wp2
      go_loopw [5, 6] (fun s5 s6 wq => ∃ (b : Bool) (i : Int), s5 = .bool b ∧ s6 = .int .i64 i ∧ Aside0 (-1 ≤ i ∧ i < t.n) ∧ Aside0 (Te B t w wq)) (fun _ s6 _ => (intOf s6 + 1).toNat)
      case atStart => exact ⟨true, _, rfl, rfl, ⟨by omega⟩, HS⟩
      case round =>
        clear k1' HS
        obtain ⟨b, i, rfl, rfl, HI, HS⟩ := hrel
        have hi1 := HI.out.1
        have hi2 := HI.out.2
        have i9 : i < 9223372036854775807 := by omega
        by_cases hi : 0 ≤ i
        · have hd' : decide (0 ≤ i) = true := decide_eq_true hi
          obtain ⟨g5, ⟨af, g1, gf⟩, ⟨cL, yL, g3, gl, gz⟩⟩ := HS.out.cells i hi hi2
          obtain ⟨y, hy⟩ := removed_any (rd t.cs i)
          have HY := Aside0.mk hy
          obtain ⟨yo, hyo⟩ := opener_any (rd t.cs i)
          have HO := Aside0.mk hyo
          generalize rd t.cs i = c at *
          clear hy hyo
          cases b <;> cases y <;> cases yo
          all_goals
          (go_wp2_with (first | (go_at_call 71; ((with_reducible refine (HY.out _).mono ?_); rintro e w1 ⟨rfl, q1, rfl⟩)) | (go_at_call 64; ((with_reducible refine (HO.out _).mono ?_); rintro e w1 ⟨rfl, q2, rfl⟩)))
           all_goals first
             | exact ⟨⟨_, i - 1, rfl, rfl, ⟨by omega⟩, ⟨by repeat (first | exact HS.out | apply Te.drewN)⟩⟩, by simp [intOf]; omega⟩
             | (refine wp_region_quiet_tail 10 (by kernel_rfl) (by kernel_rfl) ?_
                simp only [List.take_succ_cons, List.take_zero, List.drop_succ_cons, List.drop_zero]
                repeat (first | go_big_quiet_skip | (go_big_quiet_want; go_big_quiet_op; go_big_quiet_on))
                refine wpQuiet_nil ?_
                go_wp2_with fail
                exact ⟨⟨_, i - 1, rfl, rfl, ⟨by omega⟩, ⟨by
                  have key : ∀ W, Te B t w W → Te B t w (W.setCell ⟨t.bL, i.toNat, none⟩ (.int .i64 t.bs)).drew := fun W hW => (hW.setL i _ hi hi2).below (below_drew (Below.refl _ _))
                  first | exact (HS.out.drewN _).setL i _ hi hi2 | exact key _ (by repeat (first | exact HS.out | apply Te.drewN))⟩⟩, by simp [intOf]; omega⟩))
        · have hd' : decide (0 ≤ i) = false := decide_eq_false hi
          go_wp2
          go_returns
          exact ⟨rfl, HS.out⟩
end Go.Proofs.Yteoonjnmghponaa.F
