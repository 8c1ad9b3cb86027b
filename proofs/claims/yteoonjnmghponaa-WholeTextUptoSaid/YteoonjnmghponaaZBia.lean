/- Package bidi: a text's memory, a sequence's memory; reading and writing a place's class, walked. Package bidi: a place's class written, walked. Package bidi: a sequence's small methods, whatever the classes are, walked. Package bidi: what stands ahead of a place; the last strong one told on, walked. Package bidi: the last class told on, walked. Package bidi: the runs of a class told off, over any pair of function values, walked. Package bidi: weak's two function values, walked. Package bidi: rest's function value, walked. Package bidi: a level set, whatever the others are. Package bidi: the neutral ones and the implicit levels, walked. -/
import Derived.Test.YteoonjnmghponaaZUb
import Derived.Handy
import Derived.Test.YteoonjnmghponaaZPx8
namespace Go.Proofs.Yteoonjnmghponaa.F
open Go.RowKit Go.Proofs.YteoonjnmghponaaW.PrintWords Go.Proofs.YteoonjnmghponaaW.PrintLast Go.Proofs.YteoonjnmghponaaW.PrintMore
set_option linter.unusedVariables false
set_option linter.unusedSimpArgs false
/-- A text: its block, how many characters, the blocks of the two rows that are written, the rows. -/
structure TP where
 tp : Nat
 n : Nat
 bN : Nat
 bL : Nat
 Ac : Option Addr
 Af : Option Addr
 Am : Option Addr
 cc : Nat
 cf : Nat
 cm : Nat
 vn : Value
 vl : Value
 codes : List Int
 cs : List Int
 ms : List Int
 bs : Int
/-- The text lies in memory: its classes now are xs, its levels ys. -/
structure Tx (B : Nat) (t : TP) (xs ys : List Int) (W : World) : Prop where
 blk : W.heap[t.tp]? = some (.cells #[.slice t.Ac t.codes.length t.cc, .slice t.Af t.cs.length t.cf, t.vn, t.vl, .slice t.Am t.ms.length t.cm, .int .i64 t.bs] 80 (0, 0))
 rc : Kd.C (Kd.int .i64) W t.Ac t.codes.length t.codes
 rf : Kd.C (Kd.int .i64) W t.Af t.cs.length t.cs
 rm : Kd.C (Kd.int .i64) W t.Am t.ms.length t.ms
 lens : t.codes.length = t.n ∧ t.cs.length = t.n ∧ t.ms.length = t.n ∧ xs.length = t.n ∧ ys.length = t.n
 now : Kd.R (Kd.int .i64) 3 W B (· = t.bN) t.vn xs
 lev : Kd.R (Kd.int .i64) 3 W B (· = t.bL) t.vl ys
 ne : t.bN ≠ t.bL
 far : ∀ ad, (t.Ac = some ad ∨ t.Af = some ad ∨ t.Am = some ad) → ad.block ≠ t.bN ∧ ad.block ≠ t.bL
section
variable {B : Nat} {t : TP} {xs ys : List Int} {W W' : World}
theorem Tx.below (h : Tx B t xs ys W) (hb : Below W.heap.size W W') : Tx B t xs ys W' :=
 ⟨blk_below h.blk hb, Kd.C_below h.rc hb, Kd.C_below h.rf hb, Kd.C_below h.rm hb, h.lens, Kd.R_below h.now hb, Kd.R_below h.lev hb, h.ne, h.far⟩
end
/-- A sequence: its block, its places. -/
structure Sq (t : TP) (sp : Nat) (Aa : Option Addr) (ca : Nat) (at_ : List Int) (lv st en : Int) (W : World) : Prop where
 blk : W.heap[sp]? = some (.cells #[.pointer (some ⟨t.tp, 0, none⟩), .slice Aa at_.length ca, .int .i64 lv, .int .i64 st, .int .i64 en] 129 (0, 0))
 row : Kd.C (Kd.int .i64) W Aa at_.length at_
 inn : ∀ z ∈ at_, 0 ≤ z ∧ z < t.n
 far : ∀ ad, Aa = some ad → ad.block ≠ t.bN ∧ ad.block ≠ t.bL
theorem Sq.below {t : TP} {sp : Nat} {Aa : Option Addr} {ca : Nat} {at_ : List Int} {lv st en : Int} {W W' : World} (h : Sq t sp Aa ca at_ lv st en W) (hb : Below W.heap.size W W') : Sq t sp Aa ca at_ lv st en W' :=
 ⟨blk_below h.blk hb, Kd.C_below h.row hb, h.inn, h.far⟩
theorem rd_in {l : List Int} {x : Int} (h0 : 0 ≤ x) (h : x < l.length) : rd l x ∈ l := by
 unfold rd
 rw [List.getD_eq_getElem?_getD, List.getElem?_eq_getElem (by omega)]
 exact List.getElem_mem (by omega)
set_option maxRecDepth 100000 in
set_option maxHeartbeats 2000000 in
theorem of_calls {B : Nat} {t : TP} {xs ys : List Int} {sp : Nat} {Aa : Option Addr} {ca : Nat} {at_ : List Int} {lv st en : Int} {w : World} (hT : Tx B t xs ys w) (hS : Sq t sp Aa ca at_ lv st en w) (k : Int) (h0 : 0 ≤ k) (h1 : k < at_.length) :
  Calls Try.prog 73 #[.pointer (some ⟨sp, 0, none⟩), .int .i64 k] w fun e w' => e = .returned (.int .i64 (rd xs (rd at_ k))) ∧ ∃ q, w' = w.drewN q := by
 have hz := hS.inn _ (rd_in h0 h1)
 have hxl : (xs.length : Int) = t.n := by have := hT.lens; omega
 obtain ⟨g, cap, hv, _⟩ := Kd.R_form hT.now (by omega)
 have hnow := hT.now
 rw [hv] at hnow
 obtain ⟨hx, _⟩ := Kd.R_celln 0 hnow (rd at_ k) hz.1 (by omega)
 obtain ⟨ad, rfl, ha⟩ := Kd.at_int hS.row k h0 h1
 have c0 : w.cell? ⟨sp, 0, none⟩ = some (.pointer (some ⟨t.tp, 0, none⟩)) := (blk_cell hS.blk 0).trans rfl
 have c1 : w.cell? ⟨sp, 1, none⟩ = some (.slice (some ad) at_.length ca) := (blk_cell hS.blk 1).trans rfl
 have c2 : w.cell? ⟨t.tp, 2, none⟩ = some (.slice (some ⟨g, 0, none⟩) xs.length cap) := by rw [← hv]; exact (blk_cell hT.blk 2).trans rfl
 have hr : rdOf 0 xs (rd at_ k) = rd xs (rd at_ k) := rfl
 rw [hr] at hx
 have z0 := hz.1
 have z1 : rd at_ k < xs.length := by omega
 generalize rd xs (rd at_ k) = y at *
 generalize rd at_ k = z at *
 clear hT hS hz hxl hv hnow hr
 go_enter Try.func73, Try.ntmps73
 go_wp2
 go_quiet (fail)
 go_wp2
 go_ret
 exact ⟨rfl, nq, rfl⟩
end Go.Proofs.Yteoonjnmghponaa.F
namespace Go.Proofs.Yteoonjnmghponaa.F
open Go.RowKit Go.Proofs.YteoonjnmghponaaW.PrintWords Go.Proofs.YteoonjnmghponaaW.PrintLast Go.Proofs.YteoonjnmghponaaW.PrintMore
set_option linter.unusedVariables false
set_option linter.unusedSimpArgs false
/-- What a text's rules may change: its two rows, new memory. -/
structure Ch (B : Nat) (t : TP) (W W' : World) : Prop where
 bel : Below B W W'
 size : W.heap.size ≤ W'.heap.size
 keep : ∀ k, k < W.heap.size → k ≠ t.bN → k ≠ t.bL → W'.heap[k]? = W.heap[k]?
theorem Ch.refl (B : Nat) (t : TP) (W : World) : Ch B t W W := ⟨Below.refl _ _, Nat.le_refl _, fun _ _ _ _ => rfl⟩
theorem Ch.trans {B : Nat} {t : TP} {W W1 W2 : World} (h : Ch B t W W1) (k : Ch B t W1 W2) : Ch B t W W2 :=
 ⟨h.bel.trans k.bel, Nat.le_trans h.size k.size, fun i hi h1 h2 => (k.keep i (Nat.lt_of_lt_of_le hi h.size) h1 h2).trans (h.keep i hi h1 h2)⟩
theorem Ch.below {B : Nat} {t : TP} {W W1 W2 : World} (h : Ch B t W W1) (hB : B ≤ W1.heap.size) (k : Below W1.heap.size W1 W2) : Ch B t W W2 :=
 h.trans ⟨k.mono hB, k.size, fun i hi _ _ => k.block i hi⟩
theorem Ch.drewN {B : Nat} {t : TP} {W W1 : World} (h : Ch B t W W1) (q : Nat) : Ch B t W (W1.drewN q) := ⟨pw_below_drewN h.bel q, h.size, h.keep⟩
section
variable {B : Nat} {t : TP} {xs ys : List Int} {W W' : World} {sp : Nat} {Aa : Option Addr} {ca : Nat} {at_ : List Int} {lv st en : Int}
theorem Tx.formN (h : Tx B t xs ys W) (hn : 0 < t.n) : ∃ cap, t.vn = .slice (some ⟨t.bN, 0, none⟩) xs.length cap ∧ B ≤ t.bN ∧ ∃ cells, W.heap[t.bN]? = some (.cells cells 3 (0, 0)) := by
 obtain ⟨g, cap, hv, hb, _, cells, hc⟩ := Kd.R_form h.now (by have := h.lens; omega)
 have hg : g = t.bN := by
  have := h.now.1 g (by rw [hv]; rfl)
  exact this
 subst hg
 exact ⟨cap, hv, hb, cells, hc⟩
theorem Tx.formL (h : Tx B t xs ys W) (hn : 0 < t.n) : ∃ cap, t.vl = .slice (some ⟨t.bL, 0, none⟩) ys.length cap ∧ B ≤ t.bL ∧ ∃ cells, W.heap[t.bL]? = some (.cells cells 3 (0, 0)) := by
 obtain ⟨g, cap, hv, hb, _, cells, hc⟩ := Kd.R_form h.lev (by have := h.lens; omega)
 have hg : g = t.bL := by
  have := h.lev.1 g (by rw [hv]; rfl)
  exact this
 subst hg
 exact ⟨cap, hv, hb, cells, hc⟩
theorem C_off {A : Option Addr} {l : List Int} {g i : Nat} {v : Value} (h : Kd.C (Kd.int .i64) W A l.length l) (hf : ∀ ad, A = some ad → ad.block ≠ g) : Kd.C (Kd.int .i64) (W.setCell ⟨g, i, none⟩ v) A l.length l :=
 Kd.C_foot_ne (g := g) (fun h => h) h (fun ad e _ => hf ad e) _ (KeepBut.set_ (KeepBut.refl _ _ _) _ _)
theorem Tx.setN (h : Tx B t xs ys W) (z c : Int) (h0 : 0 ≤ z) (h1 : z < t.n) : Tx B t (xs.set z.toNat c) ys (W.setCell ⟨t.bN, z.toNat, none⟩ (.int .i64 c)) := by
 obtain ⟨cap, hv, hb, cells, hc⟩ := h.formN (by omega)
 have hnow := h.now
 rw [hv] at hnow
 have hnew := Kd.R_putn hnow z c
 rw [← hv] at hnew
 exact ⟨blk_far h.blk (blk_ne h.blk hc (by decide)) _, C_off h.rc (fun ad e => (h.far ad (.inl e)).1), C_off h.rf (fun ad e => (h.far ad (.inr (.inl e))).1), C_off h.rm (fun ad e => (h.far ad (.inr (.inr e))).1),
  ⟨h.lens.1, h.lens.2.1, h.lens.2.2.1, by rw [List.length_set]; exact h.lens.2.2.2.1, h.lens.2.2.2.2⟩, hnew, Kd.R_far (p := ⟨t.bN, z.toNat, none⟩) h.lev (fun k hk => by rw [hk]; exact h.ne.symm) _, h.ne, h.far⟩
theorem Tx.setL (h : Tx B t xs ys W) (z c : Int) (h0 : 0 ≤ z) (h1 : z < t.n) : Tx B t xs (ys.set z.toNat c) (W.setCell ⟨t.bL, z.toNat, none⟩ (.int .i64 c)) := by
 obtain ⟨cap, hv, hb, cells, hc⟩ := h.formL (by omega)
 have hnow := h.lev
 rw [hv] at hnow
 have hnew := Kd.R_putn hnow z c
 rw [← hv] at hnew
 exact ⟨blk_far h.blk (blk_ne h.blk hc (by decide)) _, C_off h.rc (fun ad e => (h.far ad (.inl e)).2), C_off h.rf (fun ad e => (h.far ad (.inr (.inl e))).2), C_off h.rm (fun ad e => (h.far ad (.inr (.inr e))).2),
  ⟨h.lens.1, h.lens.2.1, h.lens.2.2.1, h.lens.2.2.2.1, by rw [List.length_set]; exact h.lens.2.2.2.2⟩, Kd.R_far (p := ⟨t.bL, z.toNat, none⟩) h.now (fun k hk => by rw [hk]; exact h.ne) _, hnew, h.ne, h.far⟩
theorem Ch.setN (h : Tx B t xs ys W) {z : Int} {v : Value} (h1 : 0 < t.n) : Ch B t W (W.setCell ⟨t.bN, z.toNat, none⟩ v) := by
 obtain ⟨cap, hv, hb, _⟩ := h.formN h1
 exact ⟨(Below.refl _ _).setCell hb _, by simp [World.setCell], fun k _ hk _ => Below.heap_setCell W ⟨t.bN, z.toNat, none⟩ v k hk⟩
theorem Ch.setL (h : Tx B t xs ys W) {z : Int} {v : Value} (h1 : 0 < t.n) : Ch B t W (W.setCell ⟨t.bL, z.toNat, none⟩ v) := by
 obtain ⟨cap, hv, hb, _⟩ := h.formL h1
 exact ⟨(Below.refl _ _).setCell hb _, by simp [World.setCell], fun k _ _ hk => Below.heap_setCell W ⟨t.bL, z.toNat, none⟩ v k hk⟩
/-- A sequence is as it was. -/
theorem Sq.ch (h : Sq t sp Aa ca at_ lv st en W) (hN : sp ≠ t.bN) (hL : sp ≠ t.bL) (k : Ch B t W W') : Sq t sp Aa ca at_ lv st en W' := by
 refine ⟨(k.keep sp (blk_lt h.blk) hN hL).trans h.blk, ?_, h.inn, h.far⟩
 refine ⟨h.row.1, h.row.2.1, fun hn => ?_⟩
 obtain ⟨ad, he, hc⟩ := h.row.2.2 hn
 refine ⟨ad, he, fun j p hj => ?_⟩
 obtain ⟨cs, e1, e2, e3⟩ := hc j p hj
 refine ⟨cs, e1, e2, fun i u hu => ?_⟩
 have hx := e3 i u hu
 have hlt := World.block_lt_of_cell? W _ hx
 have hb := h.far ad he
 rw [add_block] at hlt
 have hk := k.keep _ hlt hb.1 hb.2
 rw [← hx]
 unfold World.cell?
 rw [add_block, hk]
end
set_option maxRecDepth 100000 in
set_option maxHeartbeats 2000000 in
theorem become_calls {B : Nat} {t : TP} {xs ys : List Int} {sp : Nat} {Aa : Option Addr} {ca : Nat} {at_ : List Int} {lv st en : Int} {w : World} (hT : Tx B t xs ys w) (hS : Sq t sp Aa ca at_ lv st en w) (k c : Int) (h0 : 0 ≤ k) (h1 : k < at_.length) :
  Calls Try.prog 75 #[.pointer (some ⟨sp, 0, none⟩), .int .i64 k, .int .i64 c] w fun e w' => e = .returned (.tuple #[]) ∧ Tx B t (xs.set (rd at_ k).toNat c) ys w' ∧ Ch B t w w' := by
 have hz := hS.inn _ (rd_in h0 h1)
 have hxl : (xs.length : Int) = t.n := by have := hT.lens; omega
 have HT := Aside0.mk ((hT.below (below_drew (Below.refl _ _))).setN (rd at_ k) c hz.1 hz.2)
 have HC := Aside0.mk (((Ch.refl B t w).drewN 1).trans (Ch.setN (z := rd at_ k) (v := .int .i64 c) (hT.below (below_drew (Below.refl _ _))) (by omega)))
 obtain ⟨cap, hv, _⟩ := hT.formN (by omega)
 have hnow := hT.now
 rw [hv] at hnow
 obtain ⟨hx, hf⟩ := Kd.R_celln 0 hnow (rd at_ k) hz.1 (by omega)
 obtain ⟨ad, rfl, ha⟩ := Kd.at_int hS.row k h0 h1
 have c0 : w.cell? ⟨sp, 0, none⟩ = some (.pointer (some ⟨t.tp, 0, none⟩)) := (blk_cell hS.blk 0).trans rfl
 have c1 : w.cell? ⟨sp, 1, none⟩ = some (.slice (some ad) at_.length ca) := (blk_cell hS.blk 1).trans rfl
 have c2 : w.cell? ⟨t.tp, 2, none⟩ = some (.slice (some ⟨t.bN, 0, none⟩) xs.length cap) := by rw [← hv]; exact (blk_cell hT.blk 2).trans rfl
 have hr : rdOf 0 xs (rd at_ k) = rd xs (rd at_ k) := rfl
 rw [hr] at hx
 have z0 := hz.1
 have z1 : rd at_ k < xs.length := by omega
 generalize rd xs (rd at_ k) = y at *
 generalize rd at_ k = z at *
 clear hT hS hz hxl hv hnow hr
 go_enter Try.func75, Try.ntmps75
 refine wp_region_quiet_tail 16 (by kernel_rfl) (by kernel_rfl) ?_
 simp only [List.take_succ_cons, List.take_zero, List.drop_succ_cons, List.drop_zero]
 repeat (first | go_big_quiet_skip | (go_big_quiet_want; go_big_quiet_op; go_big_quiet_on))
 refine wpQuiet_nil ?_
 go_wp2_with fail
 go_returns
 exact ⟨rfl, HT.out, HC.out⟩
end Go.Proofs.Yteoonjnmghponaa.F
namespace Go.Proofs.Yteoonjnmghponaa.F
open Go.RowKit Go.Proofs.YteoonjnmghponaaW.PrintWords Go.Proofs.YteoonjnmghponaaW.PrintLast Go.Proofs.YteoonjnmghponaaW.PrintMore
set_option linter.unusedVariables false
set_option linter.unusedSimpArgs false
/-- A sequence, by name. -/
structure SP where
 sp : Nat
 Aa : Option Addr
 ca : Nat
 at_ : List Int
 lv : Int
 st : Int
 en : Int
/-- A sequence and its text lie in memory, whatever the classes and the levels are. -/
structure Sx (B : Nat) (t : TP) (s : SP) (W : World) : Prop where
 tx : ∃ xs ys, Tx B t xs ys W
 sq : Sq t s.sp s.Aa s.ca s.at_ s.lv s.st s.en W
 ne : s.sp ≠ t.bN ∧ s.sp ≠ t.bL
 lo : B ≤ W.heap.size
section
variable {B : Nat} {t : TP} {s : SP} {W W' : World}
theorem Sx.below (h : Sx B t s W) (hb : Below W.heap.size W W') : Sx B t s W' := by
 obtain ⟨xs, ys, hx⟩ := h.tx
 exact ⟨⟨xs, ys, hx.below hb⟩, h.sq.below hb, h.ne, Nat.le_trans h.lo hb.size⟩
theorem Sx.drewN (h : Sx B t s W) (q : Nat) : Sx B t s (W.drewN q) := h.below (pw_below_drewN (Below.refl _ _) q)
theorem Sx.cells (h : Sx B t s W) : W.cell? ⟨s.sp, 0, none⟩ = some (.pointer (some ⟨t.tp, 0, none⟩)) ∧ W.cell? ⟨s.sp, 1, none⟩ = some (.slice s.Aa s.at_.length s.ca) ∧ W.cell? ⟨s.sp, 2, none⟩ = some (.int .i64 s.lv) ∧ W.cell? ⟨s.sp, 3, none⟩ = some (.int .i64 s.st) ∧ W.cell? ⟨s.sp, 4, none⟩ = some (.int .i64 s.en) :=
 ⟨(blk_cell h.sq.blk 0).trans rfl, (blk_cell h.sq.blk 1).trans rfl, (blk_cell h.sq.blk 2).trans rfl, (blk_cell h.sq.blk 3).trans rfl, (blk_cell h.sq.blk 4).trans rfl⟩
theorem Sx.few (h : Sx B t s W) : s.at_.length ≤ 9223372036854775807 := h.sq.row.2.1
theorem of_any (h : Sx B t s W) (k : Int) (h0 : 0 ≤ k) (h1 : k < s.at_.length) : ∃ y : Int, Calls Try.prog 73 #[.pointer (some ⟨s.sp, 0, none⟩), .int .i64 k] W fun e w' => e = .returned (.int .i64 y) ∧ ∃ q, w' = W.drewN q := by
 obtain ⟨xs, ys, hx⟩ := h.tx
 exact ⟨_, of_calls hx h.sq k h0 h1⟩
theorem become_any (h : Sx B t s W) (k c : Int) (h0 : 0 ≤ k) (h1 : k < s.at_.length) : Calls Try.prog 75 #[.pointer (some ⟨s.sp, 0, none⟩), .int .i64 k, .int .i64 c] W fun e w' => e = .returned (.tuple #[]) ∧ Sx B t s w' ∧ Ch B t W w' := by
 obtain ⟨xs, ys, hx⟩ := h.tx
 refine (become_calls hx h.sq k c h0 h1).mono fun e w' ⟨he, ht, hc⟩ => ⟨he, ⟨⟨_, ys, ht⟩, h.sq.ch h.ne.1 h.ne.2 hc, h.ne, Nat.le_trans h.lo hc.size⟩, hc⟩
end
set_option maxRecDepth 100000 in
set_option maxHeartbeats 2000000 in
theorem all_any {B : Nat} {t : TP} {s : SP} {w : World} (h : Sx B t s w) (a b c : Int) (h0 : 0 ≤ a) (h1 : b ≤ s.at_.length) :
  Calls Try.prog 79 #[.pointer (some ⟨s.sp, 0, none⟩), .int .i64 a, .int .i64 b, .int .i64 c] w fun e w' => e = .returned (.tuple #[]) ∧ Sx B t s w' ∧ Ch B t w w' := by
 have HS0 := Aside0.mk h
 have hm := h.few
 clear h
 go_enter Try.func79, Try.ntmps79
 go_wp2
 go_loopw [8] (fun s8 wr => ∃ k : Int, s8 = .int .i64 k ∧ Aside0 (0 ≤ k) ∧ Aside0 (Sx B t s wr) ∧ Aside0 (Ch B t w wr)) (fun s8 _ => (b - intOf s8).toNat)
 case atStart => exact ⟨a, rfl, ⟨h0⟩, HS0, ⟨Ch.refl _ _ _⟩⟩
 case round =>
  obtain ⟨k, rfl, HK, HS, HC⟩ := hrel
  by_cases hlt : k < b
  ·have hd : decide (k < b) = true := decide_eq_true hlt
   have hk0 := HK.out
   have HB := Aside0.mk (become_any HS.out k c hk0 (by omega))
   have hk1 : k < 9223372036854775807 := by omega
   have HLT := Aside0.mk hlt
   clear hlt
   go_wp2_with (go_at_call 75; ((with_reducible refine HB.out.mono ?_); rintro e w1 ⟨rfl, hs1, hc1⟩; have HS1 := Aside0.mk hs1; have HC1 := Aside0.mk (HC.out.trans hc1); clear hs1 hc1))
   go_roundw
   case rel => exact ⟨k + 1, rfl, ⟨by omega⟩, HS1, HC1⟩
   case measure => have := HLT.out; simp [intOf]; omega
  ·have hd : decide (k < b) = false := decide_eq_false hlt
   go_wp2
   go_returns
   exact ⟨rfl, HS.out, HC.out⟩
end Go.Proofs.Yteoonjnmghponaa.F
namespace Go.Proofs.Yteoonjnmghponaa.F
open Go.RowKit Go.Proofs.YteoonjnmghponaaW.PrintWords Go.Proofs.YteoonjnmghponaaW.PrintLast Go.Proofs.YteoonjnmghponaaW.PrintMore
set_option linter.unusedVariables false
set_option linter.unusedSimpArgs false
theorem side_any (c : Int) : ∃ y : Int, ∀ w : World, Calls Try.prog 81 #[.int .i64 c] w fun e w' => e = .returned (.int .i64 y) ∧ ∃ q, w' = w.drewN q := by
 obtain ⟨y, hy⟩ : ∃ y, P.bidi_side.f c = some y := by
  unfold P.bidi_side.f
  repeat' split
  all_goals exact ⟨_, rfl⟩
 exact ⟨y, fun w => (P.bidi_side.calls c y w hy).mono fun e w' ⟨he, hw⟩ => ⟨he, hw.out⟩⟩
set_option maxRecDepth 100000 in
set_option maxHeartbeats 2000000 in
theorem ahead_any {B : Nat} {t : TP} {s : SP} {w : World} (h : Sx B t s w) (k : Int) (h0 : 0 ≤ k) (h1 : k ≤ s.at_.length) :
  Calls Try.prog 82 #[.pointer (some ⟨s.sp, 0, none⟩), .int .i64 k] w fun e w' => ∃ y : Int, e = .returned (.int .i64 y) ∧ ∃ q, w' = w.drewN q := by
 have HS := Aside0.mk h
 have hm := h.few
 clear h
 go_enter Try.func82, Try.ntmps82
 go_wp2
 go_loopw [1] (fun s1 wr => ∃ j : Int, s1 = .int .i64 j ∧ Aside0 (-1 ≤ j ∧ j < s.at_.length) ∧ ∃ q, wr = w.drewN q) (fun s1 _ => (intOf s1 + 1).toNat)
 case atStart => exact ⟨k - 1, rfl, ⟨by omega⟩, 0, rfl⟩
 case round =>
  obtain ⟨j, rfl, HJ, q, rfl⟩ := hrel
  by_cases hj : 0 ≤ j
  ·have hd : decide (0 ≤ j) = true := decide_eq_true hj
   obtain ⟨y, hy⟩ := of_any (HS.out.drewN q) j hj (by have := HJ.out; omega)
   have HY := Aside0.mk hy
   obtain ⟨z, hz⟩ := side_any y
   have HSD := Aside0.mk hz
   have HJ0 := Aside0.mk hj
   have hjm : j < 9223372036854775807 := by have := HJ.out; omega
   clear hy hz
   by_cases hz0 : 0 ≤ z
   ·have hdz : decide (0 ≤ z) = true := decide_eq_true hz0
    clear hz0
    go_wp2_with (first | (go_at_call 73; ((with_reducible refine HY.out.mono ?_); rintro e w1 ⟨rfl, q1, rfl⟩)) | (go_at_call 81; ((with_reducible refine (HSD.out _).mono ?_); rintro e w2 ⟨rfl, q2, rfl⟩)))
    go_ret
    exact ⟨_, rfl, _, rfl⟩
   ·have hdz : decide (0 ≤ z) = false := decide_eq_false hz0
    clear hz0
    go_wp2_with (first | (go_at_call 73; ((with_reducible refine HY.out.mono ?_); rintro e w1 ⟨rfl, q1, rfl⟩)) | (go_at_call 81; ((with_reducible refine (HSD.out _).mono ?_); rintro e w2 ⟨rfl, q2, rfl⟩)))
    go_roundw
    case rel => exact ⟨j - 1, rfl, ⟨by have := HJ.out; have := HJ0.out; omega⟩, _, rfl⟩
    case measure => have := HJ0.out; simp [intOf]; omega
  ·have hd : decide (0 ≤ j) = false := decide_eq_false hj
   have hc : (w.drewN q).cell? ⟨s.sp, 3, none⟩ = some (.int .i64 s.st) := (HS.out.drewN q).cells.2.2.2.1
   go_wp2
   go_ret
   exact ⟨⟨_, rfl⟩, q, rfl⟩
end Go.Proofs.Yteoonjnmghponaa.F
namespace Go.Proofs.Yteoonjnmghponaa.F
open Go.RowKit Go.Proofs.YteoonjnmghponaaW.PrintWords Go.Proofs.YteoonjnmghponaaW.PrintLast Go.Proofs.YteoonjnmghponaaW.PrintMore
set_option linter.unusedVariables false
set_option linter.unusedSimpArgs false
theorem strong_any (c : Int) : ∃ y : Bool, ∀ w : World, Calls Try.prog 104 #[.int .i64 c] w fun e w' => e = .returned (.bool y) ∧ ∃ q, w' = w.drewN q := by
  obtain ⟨y, hy⟩ : ∃ y, P.bidi_strong.f c = some y := by
    unfold P.bidi_strong.f
    repeat' split
    all_goals exact ⟨_, rfl⟩
  exact ⟨y, fun w => (P.bidi_strong.calls c y w hy).mono fun e w' ⟨he, hw⟩ => ⟨he, hw.out⟩⟩
set_option maxRecDepth 100000 in
set_option maxHeartbeats 8000000 in
theorem backed_any {B : Nat} {t : TP} {s : SP} {w : World} (h : Sx B t s w) (a1 a2 a3 : Int) (b : Bool) :
    Calls Try.prog 74 #[.pointer (some ⟨s.sp, 0, none⟩), .int .i64 a1, .int .i64 a2, .int .i64 a3, .bool b] w fun e w' => e = .returned (.tuple #[]) ∧ Sx B t s w' ∧ Ch B t w w' := by
  have HS0 := Aside0.mk h
  have hm := h.few
  have hc0 := h.cells.2.2.2.1
  have hc1 := h.cells.2.1
  clear h
  go_enter Try.func74, Try.ntmps74
  go_wp2
  go_loopw [10, 22] (fun s10 s22 wr => ∃ (la : Int) (k : Int), s10 = .int .i64 la ∧ s22 = .int .i64 k ∧ Aside0 (0 ≤ k) ∧ Aside0 (Sx B t s wr) ∧ Aside0 (Ch B t w wr)) (fun s10 s22 _ => (s.at_.length - intOf s22).toNat)
  case atStart => exact ⟨s.st, 0, rfl, rfl, ⟨by omega⟩, HS0, ⟨Ch.refl _ _ _⟩⟩
  case round =>
    obtain ⟨la, k, rfl, rfl, HK, HS, HC⟩ := hrel
    have hk0 := HK.out
    by_cases hlt : k < s.at_.length
    · have hd : decide (k < s.at_.length) = true := decide_eq_true hlt
      obtain ⟨y, hy⟩ := of_any HS.out k (by omega) hlt
      have HY := Aside0.mk hy
      obtain ⟨z, hz⟩ := strong_any y
      have HZ := Aside0.mk hz
      have hk1 : k < 9223372036854775807 := by omega
      have HLT := Aside0.mk hlt
      have HL := Aside0.mk hm
      clear hy hz hlt
      obtain ⟨d1, h1⟩ : ∃ d, (y == 2) = d := ⟨_, rfl⟩
      obtain ⟨d2, h2⟩ : ∃ d, (y == a1) = d := ⟨_, rfl⟩
      obtain ⟨d3, h3⟩ : ∃ d, (y == a2) = d := ⟨_, rfl⟩
      obtain ⟨d4, h4⟩ : ∃ d, (la == a2) = d := ⟨_, rfl⟩
      cases z <;> cases b <;> cases d1 <;> cases d2 <;> cases d3 <;> cases d4
      all_goals
      (go_wp2_with (first
        | (go_at_call 73; ((with_reducible refine HY.out.mono ?_); rintro e w1 ⟨rfl, q1, rfl⟩))
        | (go_at_call 104; ((with_reducible refine (HZ.out _).mono ?_); rintro e w2 ⟨rfl, q2, rfl⟩))
        | (go_at_call 75; ((with_reducible refine Calls.mono (become_any (B := B) (t := t) (s := s) ?_ k a3 hk0 HLT.out) ?_); (repeat (first | exact HS.out | apply Sx.drewN)); rintro e w3 ⟨rfl, hs1, hc1⟩; have HS1 := Aside0.mk hs1; have HC1 := Aside0.mk hc1; clear hs1 hc1)))
       go_roundw
       case rel => exact ⟨_, k + 1, rfl, rfl, ⟨by omega⟩, by first | exact HS1 | exact ⟨by repeat (first | exact HS.out | apply Sx.drewN)⟩, by first | exact ⟨by refine Ch.trans ?_ HC1.out; repeat (first | exact HC.out | apply Ch.drewN)⟩ | exact ⟨by repeat (first | exact HC.out | apply Ch.drewN)⟩⟩
       case measure => have := HLT.out; simp [intOf]; omega)
    · have hd : decide (k < s.at_.length) = false := decide_eq_false hlt
      go_wp2
      go_returns
      exact ⟨rfl, HS.out, HC.out⟩
end Go.Proofs.Yteoonjnmghponaa.F
namespace Go.Proofs.Yteoonjnmghponaa.F
open Go.RowKit Go.Proofs.YteoonjnmghponaaW.PrintWords Go.Proofs.YteoonjnmghponaaW.PrintLast Go.Proofs.YteoonjnmghponaaW.PrintMore
set_option linter.unusedVariables false
set_option linter.unusedSimpArgs false
set_option maxRecDepth 100000 in
set_option maxHeartbeats 8000000 in
theorem sqrows_any {B : Nat} {t : TP} {s : SP} {w : World} (h : Sx B t s w) (hfew : s.at_.length < 4611686018427387904) (g g2 : Nat) (cb cb2 : Array Value)
  (eg : ∀ args w, (callFunc g args).run Try.prog w = .ok (.enter g args) w) (eg2 : ∀ args w, (callFunc g2 args).run Try.prog w = .ok (.enter g2 args) w)
  (hp : ∀ y : Int, ∃ z : Bool, ∀ W : World, Calls Try.prog g (#[.int .i64 y] ++ cb) W fun e w' => e = .returned (.bool z) ∧ ∃ q, w' = W.drewN q)
  (hf : ∀ (a b : Int) (W : World), 0 ≤ a → a < b → b ≤ s.at_.length → Sx B t s W → Ch B t w W → Calls Try.prog g2 (#[.int .i64 a, .int .i64 b] ++ cb2) W fun e w' => e = .returned (.tuple #[]) ∧ Sx B t s w' ∧ Ch B t W w') :
  Calls Try.prog 76 #[.pointer (some ⟨s.sp, 0, none⟩), .func (.func g) #[] cb, .func (.func g2) #[] cb2] w fun e w' => e = .returned (.tuple #[]) ∧ Sx B t s w' ∧ Ch B t w w' := by
 have HS0 := Aside0.mk h
 have hm : s.at_.length < 4611686018427387904 := hfew
 have HP := Aside0.mk hp
 have HF := Aside0.mk hf
 clear h hp hf hfew
 go_enter Try.func76, Try.ntmps76
 go_wp2
 go_loopw [6] (fun s6 wr => ∃ i : Int, s6 = .int .i64 i ∧ Aside0 (0 ≤ i) ∧ Aside0 (i ≤ s.at_.length + 1) ∧ Aside0 (Sx B t s wr) ∧ Aside0 (Ch B t w wr)) (fun s6 _ => (s.at_.length + 1 - intOf s6).toNat)
 case atStart => exact ⟨0, rfl, ⟨by omega⟩, ⟨by omega⟩, HS0, ⟨Ch.refl _ _ _⟩⟩
 case round =>
  obtain ⟨i, rfl, HI, HI1, HS, HC⟩ := hrel
  have hc1 := HS.out.cells.2.1
  by_cases hlt : i < s.at_.length
  ·have hd : decide (i < s.at_.length) = true := decide_eq_true hlt
   have HLT := Aside0.mk hlt
   clear hlt
   go_wp2
   go_loopw [7] (fun s7 wq => ∃ j : Int, s7 = .int .i64 j ∧ Aside0 (i ≤ j) ∧ Aside0 (j ≤ s.at_.length) ∧ ∃ q, wq = wr.drewN q) (fun s7 _ => (s.at_.length - intOf s7).toNat)
   case atStart => exact ⟨i, rfl, ⟨by omega⟩, ⟨by have := HLT.out; omega⟩, 0, rfl⟩
   case round =>
    obtain ⟨j, rfl, HJ, HJ1, q, rfl⟩ := hrel
    have hi0 : 0 ≤ i := HI.out
    have hj0 : 0 ≤ j := by have := HJ.out; omega
    have hcq : (wr.drewN q).cell? ⟨s.sp, 1, none⟩ = some (.slice s.Aa s.at_.length s.ca) := (HS.out.drewN q).cells.2.1
    by_cases hjt : j < s.at_.length
    ·have hdj : decide (j < s.at_.length) = true := decide_eq_true hjt
     obtain ⟨y, hy⟩ := of_any (HS.out.drewN q) j (by have := HI.out; have := HJ.out; omega) hjt
     have HY := Aside0.mk hy
     obtain ⟨z, hz⟩ := HP.out y
     have HJT := Aside0.mk hjt
     have HM := Aside0.mk hm
     have hj1 : j < 9223372036854775807 := by omega
     clear hy hjt
     go_wp2_with (go_at_call 73; ((with_reducible refine HY.out.mono ?_); rintro e w1 ⟨rfl, q1, rfl⟩))
     refine (hz _).mono ?_
     rintro e w2 ⟨rfl, q2, rfl⟩
     clear hz
     cases z
     ·have hmm := HM.out
      have hjq := HJ1.out
      by_cases hij : i < j
      ·have hdi : decide (i < j) = true := decide_eq_true hij
       have HIJ := Aside0.mk hij
       clear hij
       go_wp2_with fail
       refine Calls.mono (HF.out i j _ HI.out HIJ.out HJ1.out ?_ ?_) ?_
       ·repeat (first | exact HS.out | apply Sx.drewN)
       ·repeat (first | exact HC.out | apply Ch.drewN)
       rintro e w3 ⟨rfl, hs1, hc1⟩
       have HS1 := Aside0.mk hs1
       have HC1 := Aside0.mk hc1
       clear hs1 hc1
       have hjj : j < 9223372036854775807 := by omega
       go_wp2
       go_roundw
       case rel => exact ⟨j + 1, rfl, ⟨by have := HI.out; have := HJ.out; omega⟩, ⟨by have := HJ1.out; omega⟩, HS1, ⟨by refine Ch.trans ?_ HC1.out; repeat (first | exact HC.out | apply Ch.drewN)⟩⟩
       case measure => have := HJ.out; have := HLT.out; simp [intOf]; omega
      ·have hdi : decide (i < j) = false := decide_eq_false hij
       have hjj : j < 9223372036854775807 := by omega
       have hii : i < 9223372036854775807 := by have := HLT.out; omega
       go_wp2
       go_roundw
       case rel => exact ⟨i + 1, rfl, ⟨by have := HI.out; have := HJ.out; omega⟩, ⟨by have := HLT.out; omega⟩, ⟨by repeat (first | exact HS.out | apply Sx.drewN)⟩, ⟨by repeat (first | exact HC.out | apply Ch.drewN)⟩⟩
       case measure => have := HJ.out; have := HLT.out; simp [intOf]; omega
     ·go_wp2
      go_roundw
      case rel => exact ⟨j + 1, rfl, ⟨by have := HJ.out; omega⟩, ⟨by have := HJT.out; omega⟩, _, by first | rfl | rw [World.drewN_drewN]⟩
      case measure => have := HJT.out; simp [intOf]; omega
    ·have hdj : decide (j < s.at_.length) = false := decide_eq_false hjt
     have hjq := HJ1.out
     have hij : i < j := by have := HLT.out; omega
     have hj2 : i < s.at_.length := HLT.out
     have hdi : decide (i < j) = true := decide_eq_true hij
     have HIJ := Aside0.mk hij
     clear hij
     go_wp2_with fail
     refine Calls.mono (HF.out i j _ HI.out HIJ.out HJ1.out ?_ ?_) ?_
     ·repeat (first | exact HS.out | apply Sx.drewN)
     ·repeat (first | exact HC.out | apply Ch.drewN)
     rintro e w3 ⟨rfl, hs1, hc1⟩
     have HS1 := Aside0.mk hs1
     have HC1 := Aside0.mk hc1
     clear hs1 hc1
     have hjj : j < 9223372036854775807 := by omega
     go_wp2
     go_roundw
     case rel => exact ⟨j + 1, rfl, ⟨by have := HI.out; have := HJ.out; omega⟩, ⟨by have := HJ1.out; omega⟩, HS1, ⟨by refine Ch.trans ?_ HC1.out; repeat (first | exact HC.out | apply Ch.drewN)⟩⟩
     case measure => have := HJ.out; have := HLT.out; simp [intOf]; omega
  ·have hd : decide (i < s.at_.length) = false := decide_eq_false hlt
   go_wp2
   go_returns
   exact ⟨rfl, HS.out, HC.out⟩
end Go.Proofs.Yteoonjnmghponaa.F
namespace Go.Proofs.Yteoonjnmghponaa.F
open Go.RowKit Go.Proofs.YteoonjnmghponaaW.PrintWords Go.Proofs.YteoonjnmghponaaW.PrintLast Go.Proofs.YteoonjnmghponaaW.PrintMore
set_option linter.unusedVariables false
set_option linter.unusedSimpArgs false
theorem weak1_any (y : Int) : ∃ z : Bool, ∀ W : World, Calls Try.prog 77 (#[.int .i64 y] ++ #[]) W fun e w' => e = .returned (.bool z) ∧ ∃ q, w' = W.drewN q := by
  refine ⟨y == 5, fun W => ?_⟩
  go_enter Try.func77, Try.ntmps77
  go_wp2
  go_ret
  exact ⟨rfl, 0, rfl⟩
set_option maxRecDepth 100000 in
set_option maxHeartbeats 8000000 in
theorem weak2_any {B : Nat} {t : TP} {s : SP} {w : World} (h : Sx B t s w) (p : Nat) (hp : w.cell? ⟨p, 0, none⟩ = some (.pointer (some ⟨s.sp, 0, none⟩))) (hfew : s.at_.length < 4611686018427387904) (a b : Int) (h0 : 0 ≤ a) (h1 : a < b) (h2 : b ≤ s.at_.length) :
    Calls Try.prog 78 (#[.int .i64 a, .int .i64 b] ++ #[.pointer (some ⟨p, 0, none⟩)]) w fun e w' => e = .returned (.tuple #[]) ∧ Sx B t s w' ∧ Ch B t w w' := by
  have HS := Aside0.mk h
  have hc1 := h.cells.2.1
  have H1 := Aside0.mk h1
  have H2 := Aside0.mk h2
  obtain ⟨y1, hy1⟩ : ∃ y : Int, 0 < a → Calls Try.prog 73 #[.pointer (some ⟨s.sp, 0, none⟩), .int .i64 (a - 1)] w fun e w' => e = .returned (.int .i64 y) ∧ ∃ q, w' = w.drewN q := by
    by_cases ha : 0 < a
    · obtain ⟨y, hy⟩ := of_any h (a - 1) (by omega) (by omega)
      exact ⟨y, fun _ => hy⟩
    · exact ⟨0, fun k => absurd k ha⟩
  obtain ⟨y2, hy2⟩ : ∃ y : Int, b < s.at_.length → ∀ q, Calls Try.prog 73 #[.pointer (some ⟨s.sp, 0, none⟩), .int .i64 b] (w.drewN q) fun e w' => e = .returned (.int .i64 y) ∧ ∃ q1, w' = (w.drewN q).drewN q1 := by
    by_cases hb : b < s.at_.length
    · obtain ⟨xs, ys, hx⟩ := h.tx
      exact ⟨_, fun _ q => of_calls (hx.below (pw_below_drewN (Below.refl _ _) q)) (h.sq.below (pw_below_drewN (Below.refl _ _) q)) b (by omega) hb⟩
    · exact ⟨0, fun k => absurd k hb⟩
  have HA := Aside0.mk h0
  have hb9 : b < 9223372036854775807 := by omega
  have ha9 : a < 9223372036854775807 := by omega
  have hp' : ∀ q, (w.drewN q).cell? ⟨p, 0, none⟩ = some (.pointer (some ⟨s.sp, 0, none⟩)) := fun _ => hp
  have hc' : ∀ q, (w.drewN q).cell? ⟨s.sp, 1, none⟩ = some (.slice s.Aa s.at_.length s.ca) := fun _ => hc1
  obtain ⟨d1, e1⟩ : ∃ d, (y1 == 3) = d := ⟨_, rfl⟩
  obtain ⟨d2, e2⟩ : ∃ d, (y2 == 3) = d := ⟨_, rfl⟩
  clear h h1 h2 hfew
  by_cases ha : 0 < a
  · have hda : decide (0 < a) = true := decide_eq_true ha
    have HY1 := Aside0.mk (hy1 ha)
    by_cases hb : b < s.at_.length
    · have hdb : decide (b < s.at_.length) = true := decide_eq_true hb
      have HY2 := Aside0.mk (hy2 hb)
      have HY20 := HY2
      clear hy1 hy2
      cases d1 <;> cases d2
      all_goals
      (go_enter Try.func78, Try.ntmps78
       go_wp2_with (first
         | (go_at_call 73; ((with_reducible refine HY1.out.mono ?_); rintro e w1 ⟨rfl, q1, rfl⟩))
         | (go_at_call 73; ((with_reducible refine (HY2.out _).mono ?_); rintro e w2 ⟨rfl, q2, rfl⟩))
         | (go_at_call 73; ((with_reducible refine (HY20.out).mono ?_); rintro e w2 ⟨rfl, q2, rfl⟩))
         | (go_at_call 79; ((with_reducible refine Calls.mono (all_any (B := B) (t := t) (s := s) ?_ a b 3 HA.out H2.out) ?_); (repeat (first | exact HS.out | apply Sx.drewN)); rintro e w3 ⟨rfl, hs1, hc1⟩; have HS1 := Aside0.mk hs1; have HC1 := Aside0.mk hc1; clear hs1 hc1)))
       go_returns
       exact ⟨rfl, by first | exact HS1.out | (repeat (first | exact HS.out | apply Sx.drewN)), by first | (refine Ch.trans ?_ HC1.out; repeat (first | exact Ch.refl _ _ _ | apply Ch.drewN)) | (repeat (first | exact Ch.refl _ _ _ | apply Ch.drewN))⟩)
    · have hdb : decide (b < s.at_.length) = false := decide_eq_false hb
      have HY2 := HY1
      have HY20 := HY1
      clear hy1 hy2
      cases d1
      all_goals
      (go_enter Try.func78, Try.ntmps78
       go_wp2_with (first
         | (go_at_call 73; ((with_reducible refine HY1.out.mono ?_); rintro e w1 ⟨rfl, q1, rfl⟩))
         | (go_at_call 73; ((with_reducible refine (HY2.out _).mono ?_); rintro e w2 ⟨rfl, q2, rfl⟩))
         | (go_at_call 73; ((with_reducible refine (HY20.out).mono ?_); rintro e w2 ⟨rfl, q2, rfl⟩))
         | (go_at_call 79; ((with_reducible refine Calls.mono (all_any (B := B) (t := t) (s := s) ?_ a b 3 HA.out H2.out) ?_); (repeat (first | exact HS.out | apply Sx.drewN)); rintro e w3 ⟨rfl, hs1, hc1⟩; have HS1 := Aside0.mk hs1; have HC1 := Aside0.mk hc1; clear hs1 hc1)))
       go_returns
       exact ⟨rfl, by first | exact HS1.out | (repeat (first | exact HS.out | apply Sx.drewN)), by first | (refine Ch.trans ?_ HC1.out; repeat (first | exact Ch.refl _ _ _ | apply Ch.drewN)) | (repeat (first | exact Ch.refl _ _ _ | apply Ch.drewN))⟩)
  · have hda : decide (0 < a) = false := decide_eq_false ha
    by_cases hb : b < s.at_.length
    · have hdb : decide (b < s.at_.length) = true := decide_eq_true hb
      have HY2 := Aside0.mk (hy2 hb)
      have HY1 := HY2
      have HY20 : Aside0 (Calls Try.prog 73 #[.pointer (some ⟨s.sp, 0, none⟩), .int .i64 b] w fun e w' => e = .returned (.int .i64 y2) ∧ ∃ q1, w' = w.drewN q1) := ⟨HY2.out 0⟩
      clear hy1 hy2
      cases d2
      all_goals
      (go_enter Try.func78, Try.ntmps78
       go_wp2_with (first
         | (go_at_call 73; ((with_reducible refine HY1.out.mono ?_); rintro e w1 ⟨rfl, q1, rfl⟩))
         | (go_at_call 73; ((with_reducible refine (HY2.out _).mono ?_); rintro e w2 ⟨rfl, q2, rfl⟩))
         | (go_at_call 73; ((with_reducible refine (HY20.out).mono ?_); rintro e w2 ⟨rfl, q2, rfl⟩))
         | (go_at_call 79; ((with_reducible refine Calls.mono (all_any (B := B) (t := t) (s := s) ?_ a b 3 HA.out H2.out) ?_); (repeat (first | exact HS.out | apply Sx.drewN)); rintro e w3 ⟨rfl, hs1, hc1⟩; have HS1 := Aside0.mk hs1; have HC1 := Aside0.mk hc1; clear hs1 hc1)))
       go_returns
       exact ⟨rfl, by first | exact HS1.out | (repeat (first | exact HS.out | apply Sx.drewN)), by first | (refine Ch.trans ?_ HC1.out; repeat (first | exact Ch.refl _ _ _ | apply Ch.drewN)) | (repeat (first | exact Ch.refl _ _ _ | apply Ch.drewN))⟩)
    · have hdb : decide (b < s.at_.length) = false := decide_eq_false hb
      clear hy1 hy2
      have HY1 := HS
      have HY2 := HS
      have HY20 := HS
      (go_enter Try.func78, Try.ntmps78
       go_wp2_with (first
         | (go_at_call 73; ((with_reducible refine HY1.out.mono ?_); rintro e w1 ⟨rfl, q1, rfl⟩))
         | (go_at_call 73; ((with_reducible refine (HY2.out _).mono ?_); rintro e w2 ⟨rfl, q2, rfl⟩))
         | (go_at_call 73; ((with_reducible refine (HY20.out).mono ?_); rintro e w2 ⟨rfl, q2, rfl⟩))
         | (go_at_call 79; ((with_reducible refine Calls.mono (all_any (B := B) (t := t) (s := s) ?_ a b 3 HA.out H2.out) ?_); (repeat (first | exact HS.out | apply Sx.drewN)); rintro e w3 ⟨rfl, hs1, hc1⟩; have HS1 := Aside0.mk hs1; have HC1 := Aside0.mk hc1; clear hs1 hc1)))
       go_returns
       exact ⟨rfl, by first | exact HS1.out | (repeat (first | exact HS.out | apply Sx.drewN)), by first | (refine Ch.trans ?_ HC1.out; repeat (first | exact Ch.refl _ _ _ | apply Ch.drewN)) | (repeat (first | exact Ch.refl _ _ _ | apply Ch.drewN))⟩)
end Go.Proofs.Yteoonjnmghponaa.F
namespace Go.Proofs.Yteoonjnmghponaa.F
open Go.RowKit Go.Proofs.YteoonjnmghponaaW.PrintWords Go.Proofs.YteoonjnmghponaaW.PrintLast Go.Proofs.YteoonjnmghponaaW.PrintMore
set_option linter.unusedVariables false
set_option linter.unusedSimpArgs false
theorem direction_any (c : Int) : ∃ y : Int, ∀ w : World, Calls Try.prog 72 #[.int .i64 c] w fun e w' => e = .returned (.int .i64 y) ∧ ∃ q, w' = w.drewN q :=
  ⟨_, fun w => (P.bidi_direction.calls c _ w rfl).mono fun e w' ⟨he, hw⟩ => ⟨he, hw.out⟩⟩
theorem neutral_any (c : Int) : ∃ y : Bool, ∀ w : World, Calls Try.prog 83 (#[.int .i64 c] ++ #[]) w fun e w' => e = .returned (.bool y) ∧ ∃ q, w' = w.drewN q := by
  obtain ⟨z, hz⟩ : ∃ z, P.bidi_opener.f c = some z := by
    unfold P.bidi_opener.f
    repeat' split
    all_goals exact ⟨_, rfl⟩
  obtain ⟨y, hy⟩ : ∃ y, P.bidi_neutral.f c = some y := by
    unfold P.bidi_neutral.f
    rw [hz]
    cases z <;> simp only [Option.bind_some]
    all_goals repeat' split
    all_goals exact ⟨_, rfl⟩
  refine ⟨y, fun w => Calls.mono (P.bidi_neutral.calls c y w hy) ?_⟩
  rintro e w' ⟨rfl, hw⟩
  exact ⟨rfl, by first | exact hw.out | exact ⟨0, hw⟩⟩
set_option maxRecDepth 100000 in
set_option maxHeartbeats 8000000 in
theorem rest1_any {B : Nat} {t : TP} {s : SP} {w : World} (h : Sx B t s w) (p : Nat) (hp : w.cell? ⟨p, 0, none⟩ = some (.pointer (some ⟨s.sp, 0, none⟩))) (hfew : s.at_.length < 4611686018427387904) (a b : Int) (h0 : 0 ≤ a) (h1 : a < b) (h2 : b ≤ s.at_.length) :
    Calls Try.prog 84 (#[.int .i64 a, .int .i64 b] ++ #[.pointer (some ⟨p, 0, none⟩)]) w fun e w' => e = .returned (.tuple #[]) ∧ Sx B t s w' ∧ Ch B t w w' := by
  have HS := Aside0.mk h
  have hc1 := h.cells.2.1
  have hc2 := h.cells.2.2.1
  have hc4 := h.cells.2.2.2.2
  have H0 := Aside0.mk h0
  have H1 := Aside0.mk h1
  have H2 := Aside0.mk h2
  obtain ⟨yd, hyd⟩ := direction_any s.lv
  have HD := Aside0.mk hyd
  obtain ⟨y2, hy2⟩ : ∃ y : Int, b < s.at_.length → ∀ q, Calls Try.prog 73 #[.pointer (some ⟨s.sp, 0, none⟩), .int .i64 b] (w.drewN q) fun e w' => e = .returned (.int .i64 y) ∧ ∃ q1, w' = (w.drewN q).drewN q1 := by
    by_cases hb : b < s.at_.length
    · obtain ⟨xs, ys, hx⟩ := h.tx
      exact ⟨_, fun _ q => of_calls (hx.below (pw_below_drewN (Below.refl _ _) q)) (h.sq.below (pw_below_drewN (Below.refl _ _) q)) b (by omega) hb⟩
    · exact ⟨0, fun k => absurd k hb⟩
  obtain ⟨ys, hys⟩ := side_any y2
  have HSD := Aside0.mk hys
  have hp' : ∀ q, (w.drewN q).cell? ⟨p, 0, none⟩ = some (.pointer (some ⟨s.sp, 0, none⟩)) := fun _ => hp
  have hc1' : ∀ q, (w.drewN q).cell? ⟨s.sp, 1, none⟩ = some (.slice s.Aa s.at_.length s.ca) := fun _ => hc1
  have hc2' : ∀ q, (w.drewN q).cell? ⟨s.sp, 2, none⟩ = some (.int .i64 s.lv) := fun _ => hc2
  clear h h1 hyd hys hfew
  by_cases hb : b < s.at_.length
  · have hdb : decide (b < s.at_.length) = true := decide_eq_true hb
    have HY2 : Aside0 (Calls Try.prog 73 #[.pointer (some ⟨s.sp, 0, none⟩), .int .i64 b] w fun e w' => e = .returned (.int .i64 y2) ∧ ∃ q1, w' = w.drewN q1) := ⟨hy2 hb 0⟩
    clear hy2
    go_enter Try.func84, Try.ntmps84
    go_wp2_with (first
        | (go_at_call 73; ((with_reducible refine (HY2.out).mono ?_); rintro e w1 ⟨rfl, q1, rfl⟩))
        | (go_at_call 81; ((with_reducible refine (HSD.out _).mono ?_); rintro e w2 ⟨rfl, q2, rfl⟩))
        | (go_at_call 72; ((with_reducible refine (HD.out _).mono ?_); rintro e w3 ⟨rfl, q3, rfl⟩)))
    go_at_call 82
    refine Calls.mono (ahead_any (B := B) (t := t) (s := s) ?_ a H0.out (by have := H1.out; have := H2.out; omega)) ?_
    · repeat (first | exact HS.out | apply Sx.drewN)
    rintro e w4 ⟨y4, rfl, q4, rfl⟩
    obtain ⟨d, e4⟩ : ∃ d, (y4 == ys) = d := ⟨_, rfl⟩
    cases d
    all_goals
    (go_wp2_with (go_at_call 79; ((with_reducible refine Calls.mono (all_any (B := B) (t := t) (s := s) ?_ a b _ H0.out H2.out) ?_); (repeat (first | exact HS.out | apply Sx.drewN)); rintro e w3 ⟨rfl, hs1, hc1⟩; have HS1 := Aside0.mk hs1; have HC1 := Aside0.mk hc1; clear hs1 hc1))
     go_returns
     exact ⟨rfl, HS1.out, by refine Ch.trans ?_ HC1.out; repeat (first | exact Ch.refl _ _ _ | apply Ch.drewN)⟩)
  · have hdb : decide (b < s.at_.length) = false := decide_eq_false hb
    clear hy2
    go_enter Try.func84, Try.ntmps84
    go_wp2_with (go_at_call 72; ((with_reducible refine (HD.out _).mono ?_); rintro e w3 ⟨rfl, q3, rfl⟩))
    go_at_call 82
    refine Calls.mono (ahead_any (B := B) (t := t) (s := s) ?_ a H0.out (by have := H1.out; have := H2.out; omega)) ?_
    · repeat (first | exact HS.out | apply Sx.drewN)
    rintro e w4 ⟨y4, rfl, q4, rfl⟩
    obtain ⟨d, e4⟩ : ∃ d, (y4 == s.en) = d := ⟨_, rfl⟩
    cases d
    all_goals
    (go_wp2_with (go_at_call 79; ((with_reducible refine Calls.mono (all_any (B := B) (t := t) (s := s) ?_ a b _ H0.out H2.out) ?_); (repeat (first | exact HS.out | apply Sx.drewN)); rintro e w3 ⟨rfl, hs1, hc1⟩; have HS1 := Aside0.mk hs1; have HC1 := Aside0.mk hc1; clear hs1 hc1))
     go_returns
     exact ⟨rfl, HS1.out, by refine Ch.trans ?_ HC1.out; repeat (first | exact Ch.refl _ _ _ | apply Ch.drewN)⟩)
end Go.Proofs.Yteoonjnmghponaa.F
namespace Go.Proofs.Yteoonjnmghponaa.F
open Go.RowKit Go.Proofs.YteoonjnmghponaaW.PrintWords Go.Proofs.YteoonjnmghponaaW.PrintLast Go.Proofs.YteoonjnmghponaaW.PrintMore
section
variable {B : Nat} {t : TP} {s : SP} {W : World}
theorem Sx.ch {W' : World} (h : Sx B t s W) {xs ys : List Int} (hT : Tx B t xs ys W') (hc : Ch B t W W') : Sx B t s W' :=
 ⟨⟨xs, ys, hT⟩, h.sq.ch h.ne.1 h.ne.2 hc, h.ne, Nat.le_trans h.lo hc.size⟩
theorem Sx.setL (h : Sx B t s W) (z c : Int) (h0 : 0 ≤ z) (h1 : z < t.n) : Sx B t s (W.setCell ⟨t.bL, z.toNat, none⟩ (.int .i64 c)) ∧ Ch B t W (W.setCell ⟨t.bL, z.toNat, none⟩ (.int .i64 c)) := by
 obtain ⟨xs, ys, hx⟩ := h.tx
 have hc := Ch.setL (z := z) (v := .int .i64 c) hx (by omega)
 exact ⟨h.ch (hx.setL z c h0 h1) hc, hc⟩
theorem Sx.setN (h : Sx B t s W) (z c : Int) (h0 : 0 ≤ z) (h1 : z < t.n) : Sx B t s (W.setCell ⟨t.bN, z.toNat, none⟩ (.int .i64 c)) ∧ Ch B t W (W.setCell ⟨t.bN, z.toNat, none⟩ (.int .i64 c)) := by
 obtain ⟨xs, ys, hx⟩ := h.tx
 have hc := Ch.setN (z := z) (v := .int .i64 c) hx (by omega)
 exact ⟨h.ch (hx.setN z c h0 h1) hc, hc⟩
theorem Sx.inn (h : Sx B t s W) (k : Int) (h0 : 0 ≤ k) (h1 : k < s.at_.length) : 0 ≤ rd s.at_ k ∧ rd s.at_ k < t.n := h.sq.inn _ (rd_in h0 h1)
end
end Go.Proofs.Yteoonjnmghponaa.F
namespace Go.Proofs.Yteoonjnmghponaa.F
open Go.RowKit Go.Proofs.YteoonjnmghponaaW.PrintWords Go.Proofs.YteoonjnmghponaaW.PrintLast Go.Proofs.YteoonjnmghponaaW.PrintMore
set_option linter.unusedVariables false
set_option linter.unusedSimpArgs false
/-- A block that is neither of the two rows is as it was. -/
theorem Ch.cell {B : Nat} {t : TP} {W W' : World} (h : Ch B t W W') {p : Addr} {v : Value} (hv : W.cell? p = some v) (h1 : p.block ≠ t.bN) (h2 : p.block ≠ t.bL) : W'.cell? p = some v := by
 have hlt := World.block_lt_of_cell? W _ hv
 rw [← hv]
 unfold World.cell?
 rw [h.keep _ hlt h1 h2]
theorem Sx.alloc {B : Nat} {t : TP} {s : SP} {W : World} (h : Sx B t s W) (o : Obj) : Sx B t s (W.alloc o) := h.below (below_alloc (Below.refl _ _) o)
set_option maxRecDepth 100000 in
set_option maxHeartbeats 8000000 in
theorem rest_any {B : Nat} {t : TP} {s : SP} {w : World} (h : Sx B t s w) (hfew : s.at_.length < 4611686018427387904) (hz : t.bN < w.heap.size ∧ t.bL < w.heap.size) :
  Calls Try.prog 36 #[.pointer (some ⟨s.sp, 0, none⟩)] w fun e w' => e = .returned (.tuple #[]) ∧ Sx B t s w' ∧ Ch B t w w' := by
 have HS0 := Aside0.mk h
 have hc1 := h.cells.2.1
 have hsp := blk_lt h.sq.blk
 clear h
 go_enter Try.func36, Try.ntmps36
 go_wp2_with fail
 have HSa := HS0.out.alloc (Obj.cells #[Value.pointer (some { block := s.sp, off := 0 })] 84)
 have HBx : (w.alloc (Obj.cells #[Value.pointer (some { block := s.sp, off := 0 })] 84)).cell? ⟨w.heap.size, 0, none⟩ = some (.pointer (some ⟨s.sp, 0, none⟩)) := (blk_cell (blk_new _ _) 0).trans rfl
 have n1 : w.heap.size ≠ t.bN := by omega
 have n2 : w.heap.size ≠ t.bL := by omega
 refine Calls.mono (sqrows_any HSa hfew 83 84 #[] _ (fun _ _ => rfl) (fun _ _ => rfl) neutral_any (fun a b W h0 h1 h2 hS hC => rest1_any hS w.heap.size (hC.cell HBx n1 n2) hfew a b h0 h1 h2)) ?_
 rintro e w1 ⟨rfl, hs1, hc1⟩
 have HS1 := Aside0.mk hs1
 have HC1 := Aside0.mk hc1
 have hbx := hc1.cell HBx n1 n2
 clear hs1 hc1
 have HW : Aside0 (Ch B t w w1) := ⟨((Ch.refl B t w).below HS0.out.lo (below_alloc (Below.refl _ _) _)).trans HC1.out⟩
 have hc1 := HS1.out.cells.2.1
 go_wp2
 go_loopw [13] (fun s13 wr => ∃ k : Int, s13 = .int .i64 k ∧ Aside0 (0 ≤ k) ∧ Aside0 (Sx B t s wr) ∧ Aside0 (Ch B t w wr) ∧ Aside0 (wr.cell? ⟨w.heap.size, 0, none⟩ = some (.pointer (some ⟨s.sp, 0, none⟩)))) (fun s13 _ => (s.at_.length - intOf s13).toNat)
 case atStart => exact ⟨0, rfl, ⟨by omega⟩, HS1, HW, ⟨hbx⟩⟩
 case round =>
  obtain ⟨k, rfl, HK, HS, HC, HB⟩ := hrel
  have hk0 := HK.out
  have hbr := HB.out
  by_cases hlt : k < s.at_.length
  ·have hd : decide (k < s.at_.length) = true := decide_eq_true hlt
   obtain ⟨y, hy⟩ := of_any HS.out k (by omega) hlt
   have HY := Aside0.mk hy
   have hk1 : k < 9223372036854775807 := by omega
   have HLT := Aside0.mk hlt
   obtain ⟨xs, ys, hx⟩ := HS.out.tx
   have hin := HS.out.inn k hk0 hlt
   have hyl : (ys.length : Int) = t.n := by have := hx.lens; omega
   obtain ⟨cap, hv, _⟩ := hx.formL (by omega)
   have hlev := hx.lev
   rw [hv] at hlev
   obtain ⟨hcl, _⟩ := Kd.R_celln 0 hlev (rd s.at_ k) hin.1 (by omega)
   obtain ⟨ad, had, ha⟩ := Kd.at_int HS.out.sq.row k hk0 hlt
   have d0 : wr.cell? ⟨s.sp, 0, none⟩ = some (.pointer (some ⟨t.tp, 0, none⟩)) := HS.out.cells.1
   have d2 : wr.cell? ⟨s.sp, 2, none⟩ = some (.int .i64 s.lv) := HS.out.cells.2.2.1
   have d3 : wr.cell? ⟨t.tp, 3, none⟩ = some (.slice (some ⟨t.bL, 0, none⟩) ys.length cap) := by rw [← hv]; exact (blk_cell hx.blk 3).trans rfl
   have hin1 := hin.1
   have hin2 : rd s.at_ k < ys.length := by omega
   generalize hz : rd s.at_ k = z at *
   clear hy hv hlev hyl
   rw [had]
   go_wp2_with (go_at_call 73; ((with_reducible refine HY.out.mono ?_); rintro e w1 ⟨rfl, q1, rfl⟩))
   all_goals
   refine ⟨⟨k + 1, rfl, ⟨by omega⟩, ?_, ?_, ?_⟩, by have := HLT.out; simp [intOf]; omega⟩
   all_goals first
    | exact ⟨HS.out.drewN _⟩
    | exact ⟨HC.out.drewN _⟩
    | exact ⟨HB.out⟩
    | exact ⟨((HS.out.drewN _).setL z _ hin.1 hin.2).1⟩
    | exact ⟨(HC.out.drewN _).trans ((HS.out.drewN _).setL z _ hin.1 hin.2).2⟩
    | exact ⟨Ch.cell ((HS.out.drewN _).setL z _ hin.1 hin.2).2 (show (wr.drewN _).cell? _ = _ from HB.out) n1 n2⟩
  ·have hd : decide (k < s.at_.length) = false := decide_eq_false hlt
   go_wp2
   go_returns
   exact ⟨rfl, HS.out, HC.out⟩
end Go.Proofs.Yteoonjnmghponaa.F
