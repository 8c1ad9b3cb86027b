/- Package cmap: cuts, counts, rows and the choice of a subtable, walked (where nothing is thrown). Package cmap: a row's rank, walked. Package cmap, whatever the bytes: its readers hand back a number or throw (CmapBounds). -/
import Derived.Test.YtebmfbfmdbimdaaZCmap0
import Derived.Test.YtebmfbfmdbimdaaZQd
import Derived.Deep.RegionHeld3
import Derived.Deep.LoopGhost
import Derived.Deep.QuietTactic
import Derived.BigQuiet
import Derived.ChangeKeysEq
namespace Go.Proofs.Ytebmfbfmdbimdaa.F
open Go.RowKit Go.Proofs.YtebmfbfmdbimdaaW.PrintWords Go.Proofs.YtebmfbfmdbimdaaW.PrintLast Go.Proofs.YtebmfbfmdbimdaaW.PrintMore Go.Proofs.Ytebmfbfmdbimdaa.rowQ
attribute [local go_sem] max2_int min2_int max_two min_two max_three min_three max_four min_four
set_option linter.unusedVariables false
set_option linter.unusedSimpArgs false
set_option maxRecDepth 100000 in
set_option maxHeartbeats 2000000 in
theorem peek_Cut.calls (p : Nat) (A : Option Addr) (c : Nat) (l : List Int) (at_ n : Int) (w : World) (h : View w p A c l) (hp : partOk l at_ n) :
    Calls Try.prog 64 #[.pointer (some ⟨p, 0, none⟩), .int .i64 at_, .int .i64 n] w fun e w' => ∃ (q : Nat) (B : Option Addr) (d : Nat), e = .returned (.tuple #[.pointer (some ⟨q, 0, none⟩), .int .i64 0]) ∧ w.heap.size ≤ q ∧ View w' q B d (partL l at_ n) ∧ Below w.heap.size w w' := by
  have HV := Aside0.mk h
  have HP := Aside0.mk (peek_part.calls p A c l at_ n)
  have e2 : partE l at_ n = 0 := by unfold partE; rw [if_pos hp]
  rw [e2] at HP
  generalize partL l at_ n = L at *
  clear h e2 hp
  go_enter Try.func64, Try.ntmps64
  go_wp2_with (first | (go_at_call 83; (with_reducible refine (HP.out _ HV.out).mono ?_); rintro e w1 ⟨B, d, rfl, hC, hd, hw⟩; have HC := Aside0.mk hC; have HW := Aside0.mk hw; clear hC hw))
  go_ret2
  have hw := HW.out
  subst hw
  have hbk := heap_alloc_new w1 (.cells #[.slice B L.length d] 111 (0, 0))
  exact ⟨_, B, d, rfl, Nat.le_refl _, ⟨hbk, Kd.C_below HC.out (below_alloc (Below.refl _ _) _), hd⟩, (Below.refl _ _).alloc (Nat.le_refl _) _⟩
theorem View.set {w : World} {p : Nat} {A : Option Addr} {c : Nat} {l : List Int} (h : View w p A c l) {g : Nat} {cs : Array Value} {t : TypeId} (hb : w.heap[g]? = some (.cells cs t (0, 0))) (hpg : p ≠ g) (hcs : ∀ (i : Nat) (z : Int), cs[i]? ≠ some (.int .u8 z)) (i : Nat) (v : Value) :
    View (w.setCell ⟨g, i, none⟩ v) p A c l := by
  refine ⟨blk_far h.blk hpg _, ?_, h.cap⟩
  refine Kd.C_foot_ne (g := g) (fun h => h) h.row (fun ad he hn hg => ?_) _ (KeepBut.set_ (KeepBut.refl _ _ _) _ _)
  obtain ⟨ad', e, hx⟩ := Kd.at_int h.row (0 : Int) (by omega) (by omega)
  have hbl : (ad'.add ((0 : Int).toNat)).block = g := by
    rw [he] at e
    injection e with e
    rw [← e, ← hg]
    exact add_block _ _
  unfold World.cell? at hx
  rw [hbl, hb] at hx
  simp only at hx
  split at hx
  · cases hx
  · exact hcs _ _ hx
/-- Block g holds a reader of the view p. -/
structure Rd (w0 : World) (g p : Nat) (A : Option Addr) (c : Nat) (l : List Int) (w : World) : Prop where
  blk : w.heap[g]? = some (.cells #[.pointer (some ⟨p, 0, none⟩)] 114 (0, 0))
  view : View w p A c l
  bel : Below w0.heap.size w0 w
theorem Rd.below {w0 : World} {g p : Nat} {A : Option Addr} {c : Nat} {l : List Int} {w w' : World} (h : Rd w0 g p A c l w) (hb : Below w.heap.size w w') : Rd w0 g p A c l w' :=
  ⟨blk_below h.blk hb, h.view.below hb, below_then h.bel h.bel.size hb⟩
theorem Rd.cell {w0 : World} {g p : Nat} {A : Option Addr} {c : Nat} {l : List Int} {w : World} (h : Rd w0 g p A c l w) : w.cell? ⟨g, 0, none⟩ = some (.pointer (some ⟨p, 0, none⟩)) := (blk_cell h.blk 0).trans rfl
theorem Rd.new {w : World} {p : Nat} {A : Option Addr} {c : Nat} {l : List Int} (h : View w p A c l) : Rd w w.heap.size p A c l (w.alloc (.cells #[.pointer (some ⟨p, 0, none⟩)] 114)) :=
  ⟨blk_new _ _, h.below (below_alloc (Below.refl _ _) _), below_alloc (Below.refl _ _) _⟩
section
variable {w0 w' w'' : World} {g p : Nat} {A : Option Addr} {c : Nat} {l : List Int}
theorem rkeep (h : Aside0 (Rd w0 g p A c l w')) (hb : Below w'.heap.size w' w'') : w''.cell? ⟨g, 0, none⟩ = some (.pointer (some ⟨p, 0, none⟩)) ∧ Aside0 (Rd w0 g p A c l w'') :=
  ⟨(h.out.below hb).cell, ⟨h.out.below hb⟩⟩
theorem rkeep2 (h : w'.cell? ⟨g, 0, none⟩ = some (.pointer (some ⟨p, 0, none⟩)) ∧ Aside0 (Rd w0 g p A c l w')) (hb : Below w'.heap.size w' w'') : w''.cell? ⟨g, 0, none⟩ = some (.pointer (some ⟨p, 0, none⟩)) ∧ Aside0 (Rd w0 g p A c l w'') := rkeep h.2 hb
theorem held_r (h : w'.cell? ⟨g, 0, none⟩ = some (.pointer (some ⟨p, 0, none⟩)) ∧ Aside0 (Rd w0 g p A c l w')) : Rd w0 g p A c l w' := h.2.out
theorem held_v (h : w'.cell? ⟨g, 0, none⟩ = some (.pointer (some ⟨p, 0, none⟩)) ∧ Aside0 (Rd w0 g p A c l w')) : View w' p A c l := h.2.out.view
theorem held_b (h : w'.cell? ⟨g, 0, none⟩ = some (.pointer (some ⟨p, 0, none⟩)) ∧ Aside0 (Rd w0 g p A c l w')) : Below w0.heap.size w0 w' := h.2.out.bel
end
set_option maxRecDepth 100000 in
set_option maxHeartbeats 2000000 in
theorem count_ok (p : Nat) (A : Option Addr) (c : Nat) (l : List Int) (at_ : Int) (w : World) (h : View w p A c l) (hb : ∀ z ∈ l, 0 ≤ z ∧ z ≤ 255) (hp : partOk l at_ 4) (hn : num l at_ 4 ≤ 4096) :
    Calls Try.prog 72 #[.agg #[.pointer (some ⟨p, 0, none⟩)], .int .i64 at_] w fun e w' => e = .returned (.int .i64 (num l at_ 4)) ∧ Below w.heap.size w w' := by
  have HP := Aside0.mk (fun W (hv : View W p A c l) => cu32_ok p A c l at_ W hv hb hp)
  have HV := Aside0.mk h
  have hd : decide (num l at_ 4 ≤ 4096) = true := decide_eq_true hn
  generalize num l at_ 4 = x at *
  clear h hb hp hn
  go_enter Try.func72, Try.ntmps72
  go_wp2_with (first | (go_at_call 62; (refine (HP.out _ (HV.out.below (below_alloc (Below.refl _ _) _))).mono ?_); rintro e w1 ⟨rfl, hb⟩; have HB := Aside0.mk hb; clear hb) | (go_at_call 54; (refine (must_ok 53 _).mono ?_); rintro e w2 ⟨rfl, rfl⟩))
  go_ret
  exact ⟨rfl, below_then (below_alloc (Below.refl _ _) _) (below_alloc (Below.refl _ _) _).size HB.out⟩
set_option maxRecDepth 100000 in
set_option maxHeartbeats 4000000 in
theorem tail_ok (p : Nat) (A : Option Addr) (c : Nat) (l : List Int) (at_ : Int) (w : World) (h : View w p A c l) (h0 : 0 ≤ at_) (h1 : at_ ≤ l.length) (hl : l.length < 140737488355328) :
    Calls Try.prog 56 #[.agg #[.pointer (some ⟨p, 0, none⟩)], .int .i64 at_] w fun e w' => ∃ (q : Nat) (B : Option Addr) (d : Nat), e = .returned (.agg #[.pointer (some ⟨q, 0, none⟩)]) ∧ View w' q B d (l.drop at_.toNat) ∧ Below w.heap.size w w' := by
  have hp : partOk l at_ (l.length - at_) := ⟨h0, by omega, by omega, by omega⟩
  have eP : partL l at_ (l.length - at_) = l.drop at_.toNat := by
    unfold partL
    rw [if_pos hp, List.take_of_length_le (by omega)]
  have HC := Aside0.mk (fun W (hv : View W p A c l) => peek_Cut.calls p A c l at_ (l.length - at_) W hv hp)
  rw [eP] at HC
  have HL := Aside0.mk (fun W (hv : View W p A c l) => peek_Len.calls p A c l W hv)
  have hm : (if IntKind.i64.wrap ((l.length : Int) - at_) < 0 then 0 else IntKind.i64.wrap ((l.length : Int) - at_)) = (l.length : Int) - at_ := by
    rw [IntKind.wrap_i64]
    split <;> omega
  have HM := Aside0.mk hm
  generalize hn : (l.length : Int) - at_ = n at *
  clear hm
  generalize l.drop at_.toNat = L at *
  clear eP hp
  have h := Aside0.mk h
  go_enter Try.func56, Try.ntmps56
  go_wp2
  have h := h.out
  have hr := Rd.new h
  have hrb := blk_new (w.alloc (.cells #[.pointer (some ⟨p, 0, none⟩)] 114)) (.cells #[.pointer none] 114)
  have hr2 : Rd ((w.alloc (.cells #[.pointer (some ⟨p, 0, none⟩)] 114)).alloc (.cells #[.pointer none] 114)) w.heap.size p A c l ((w.alloc (.cells #[.pointer (some ⟨p, 0, none⟩)] 114)).alloc (.cells #[.pointer none] 114)) := ⟨blk_alloc hr.blk _, hr.view.below (below_alloc (Below.refl _ _) _), Below.refl _ _⟩
  have hbw : Below w.heap.size w ((w.alloc (.cells #[.pointer (some ⟨p, 0, none⟩)] 114)).alloc (.cells #[.pointer none] 114)) := below_alloc (below_alloc (Below.refl _ _) _) _
  rw [show (w.alloc (.cells #[.pointer (some ⟨p, 0, none⟩)] 114)).heap.size = w.heap.size + 1 from by simp] at hrb
  obtain ⟨g, hg⟩ : ∃ g, g = w.heap.size := ⟨_, rfl⟩
  rw [← hg] at hr2 hrb ⊢
  generalize (w.alloc (.cells #[.pointer (some ⟨p, 0, none⟩)] 114)).alloc (.cells #[.pointer none] 114) = wr at *
  have HR := Aside0.mk hr2
  have HRB := Aside0.mk hrb
  have HBW := Aside0.mk hbw
  have HG : Aside0 (w.heap.size ≤ g + 1) := ⟨by omega⟩
  clear h hr hr2 hrb hbw hg
  go_region_held3 (fun w' => w'.cell? ⟨g, 0, none⟩ = some (.pointer (some ⟨p, 0, none⟩)) ∧ Aside0 (Rd wr g p A c l w'))
    (first | exact rkeep HR (below_drew (Below.refl _ _)) | assumption)
    (first | (go_at_call 65; (refine (HL.out _ (held_v (w0 := wr) (g := g) (p := p) (A := A) (c := c) (l := l) (by assumption))).mono ?_); rintro e w5 ⟨rfl, rfl⟩) | (go_at_call 64; rw [HM.out]; (with_reducible refine (HC.out _ (held_v (w0 := wr) (g := g) (p := p) (A := A) (c := c) (l := l) (by assumption))).mono ?_); rintro e w5 ⟨q, B, d, rfl, hq, hv, hb⟩; have hS5 := rkeep2 (w0 := wr) (g := g) (p := p) (A := A) (c := c) (l := l) (by assumption) hb; have HVQ := Aside0.mk hv; have HQ := Aside0.mk hq; clear hv hb hq))
  all_goals
    have hkp := held_b (w0 := wr) (g := g) (p := p) (A := A) (c := c) (l := l) (by assumption)
    have hrb := blk_below HRB.out hkp
    have c1 := (blk_cell hrb 0).trans rfl
    have f1 := blk_frozen hrb 0
    have HK := Aside0.mk (below_then HBW.out HBW.out.size hkp)
    have HRB6 := Aside0.mk hrb
    clear hkp hrb
    go_wp2_with (first | (go_at_call 54; (refine (must_ok 51 _).mono ?_); rintro e w6 ⟨rfl, rfl⟩))
    have hb6 := HRB6.out
    have c2 := (blk_cell (blk_set hb6 0 (.pointer (some ⟨q, 0, none⟩))) 0).trans rfl
    have hq : wr.heap.size ≤ q := HQ.out
    have hgw := blk_lt HRB.out
    refine bodyPost_ret (v := .agg #[.pointer (some ⟨q, 0, none⟩)]) (by simp [results, Try.results56, go_sem, c2]) rfl ⟨q, B, d, rfl, ?_, ?_⟩
    · refine HVQ.out.set hb6 (by omega) (fun i z => ?_) 0 _
      rcases i with _ | i <;> simp
    · exact below_set HK.out HG.out
end Go.Proofs.Ytebmfbfmdbimdaa.F
namespace Go.Proofs.Ytebmfbfmdbimdaa.F
open Go.RowKit Go.Proofs.YtebmfbfmdbimdaaW.PrintWords Go.Proofs.YtebmfbfmdbimdaaW.PrintLast Go.Proofs.YtebmfbfmdbimdaaW.PrintMore Go.Proofs.Ytebmfbfmdbimdaa.rowQ
set_option linter.unusedVariables false
set_option linter.unusedSimpArgs false
def isP (a b : Int) (z : List Int) : Bool := a == z.getD 0 0 && b == z.getD 1 0
/-- The first place of a pair, or -1. -/
def idxP (a b : Int) (L : List (List Int)) : Int := match L.findIdx? (isP a b) with | some i => i | none => -1
theorem pair_eq (a b z0 z1 : Int) (W : World) : (binOp BinOp.eql 22 (.agg #[.int .i64 a, .int .i64 b]) (.agg #[.int .i64 z0, .int .i64 z1])).run Try.prog W = .ok (.bool (a == z0 && b == z1)) W := by
  obtain ⟨i, hi⟩ : ∃ i, Try.prog.info? 3 = some i := Option.isSome_iff_exists.1 (by kernel_rfl)
  have k3 : Try.prog.cellsOf 3 = 1 := by kernel_rfl
  have p0 : ∀ (x y : Int) (V : World), (part 3 #[.int .i64 x, .int .i64 y] 0).run Try.prog V = .ok (.int .i64 x) V := fun x y V => by kernel_rfl
  have p1 : ∀ (x y : Int) (V : World), (part 3 #[.int .i64 x, .int .i64 y] 1).run Try.prog V = .ok (.int .i64 y) V := fun x y V => by kernel_rfl
  rw [run_eql_struct, run_equalIn_array (n := 2) (e := 3) W 9999 _ _ Try.underlying22 hi, k3]
  rw [show List.range 2 = [0, 1] from rfl]
  have q : ∀ (x y : Int) (V : World), (Op.equalIn 9999 3 (.int .i64 x) (.int .i64 y)).run Try.prog V = .ok (x == y) V := fun x y V => run_equalIn_int V 9998 3 .i64 .i64 x y Try.underlying3
  simp only [Op.eqItems, Sem.run_bind, Nat.zero_mul, Nat.one_mul, p0, p1, q, Result.andThen_ok]
  cases a == z0 <;> cases hb : b == z1 <;> simp [p0, p1, q, hb]
set_option maxRecDepth 100000 in
set_option maxHeartbeats 2000000 in
theorem index_pair (A : Option Addr) (c : Nat) (L : List (List Int)) (a b : Int) (w : World) (hR : RowQ 2 w A L) (hL : L.length < 140737488355328) :
    Calls Try.prog 82 #[.slice A L.length c, .agg #[.int .i64 a, .int .i64 b]] w fun e w' => e = .returned (.int .i64 (idxP a b L)) ∧ Below w.heap.size w w' := by
  have HR := Aside0.mk hR
  clear hR
  go_enter Try.func82, Try.ntmps82
  go_wp2
  have hbk := blk_new w (.cells #[.int .i64 a, .int .i64 b] 22)
  have hbw := below_alloc (Below.refl w.heap.size w) (.cells #[.int .i64 a, .int .i64 b] 22)
  obtain ⟨g, hg⟩ : ∃ g, g = w.heap.size := ⟨_, rfl⟩
  rw [← hg] at hbk ⊢
  generalize w.alloc _ = w1 at *
  have HK := Aside0.mk hbk
  have HB := Aside0.mk hbw
  clear hbk hbw hg
  go_loopw [8] (fun s wr => ∃ (n q : Nat), s = .int .i64 (n : Int) ∧ Aside0 (n ≤ L.length) ∧ wr = w1.drewN q ∧ Aside0 (∀ j, j < n → isP a b (L.getD j []) = false)) (fun s _ => L.length - (intOf s).toNat)
  case atStart => exact ⟨0, 0, rfl, ⟨Nat.zero_le _⟩, rfl, ⟨fun j hj => absurd hj (Nat.not_lt_zero _)⟩⟩
  case round =>
    obtain ⟨n, q, rfl, HN, rfl, HP⟩ := hrel
    have c0 := (blk_cell HK.out 0).trans rfl
    have c1 := (blk_cell HK.out 1).trans rfl
    by_cases hlt : n < L.length
    · obtain ⟨x, rfl, k0, hcell⟩ := (HR.out.below HB.out).cell0 (by decide) hlt
      have k1 := hcell 1 (by decide) (by decide)
      clear hcell
      have hz : isP a b (L.getD n []) = (a == (L.getD n []).getD 0 0 && b == (L.getD n []).getD 1 0) := rfl
      generalize (L.getD n []).getD 0 0 = z0 at *
      generalize (L.getD n []).getD 1 0 = z1 at *
      have HZ := Aside0.mk hz
      clear hz
      have p0 : (0 : Int) ≤ n := by omega
      have p1 : (n : Int) < L.length := by omega
      have hd : decide ((n : Int) < (L.length : Int)) = true := decide_eq_true p1
      have pq := pair_eq a b z0 z1
      cases hq : (a == z0 && b == z1) <;> rw [hq] at pq HZ
      · clear hq
        go_wp2
        go_quiet (fail)
        go_wp2
        go_roundw
        case rel =>
          refine ⟨n + 1, q + nq, by go_num, ⟨hlt⟩, (by first | rfl | rw [World.drewN_drewN]), ⟨fun j hj => ?_⟩⟩
          by_cases hjn : j = n
          · rw [hjn]; exact HZ.out
          · exact HP.out j (by omega)
        case measure => simp [intOf]; omega
      · clear hq
        go_wp2
        go_quiet (fail)
        go_wp2
        go_ret
        refine ⟨?_, pw_below_drewN (pw_below_drewN HB.out _) _⟩
        have hf : L.findIdx? (isP a b) = some n := by
          rw [List.findIdx?_eq_some_iff_getElem]
          refine ⟨hlt, ?_, fun j hj => ?_⟩
          · have := HZ.out
            rwa [List.getD_eq_getElem?_getD, List.getElem?_eq_getElem hlt] at this
          · have := HP.out j hj
            rw [List.getD_eq_getElem?_getD, List.getElem?_eq_getElem (by omega)] at this
            simpa using this
        unfold idxP
        rw [hf]
        rfl
    · obtain rfl : n = L.length := by have := HN.out; omega
      have hd : decide (((L.length : Nat) : Int) < (L.length : Int)) = false := decide_eq_false (by omega)
      go_wp2
      go_ret
      refine ⟨?_, pw_below_drewN HB.out _⟩
      have hf : L.findIdx? (isP a b) = none := by
        rw [List.findIdx?_eq_none_iff]
        intro z hz
        obtain ⟨j, hj, rfl⟩ := List.getElem_of_mem hz
        have := HP.out j hj
        rwa [List.getD_eq_getElem?_getD, List.getElem?_eq_getElem hj] at this
      unfold idxP
      rw [hf]
      rfl
def rankL : List (List Int) := [[3, 10], [0, 6], [0, 4], [3, 1], [0, 3], [0, 2], [0, 1], [0, 0], [1, 0]]
theorem rank_row {w : World} {g : Nat} (hb : w.heap[g]? = some (.cells #[.int .i64 3, .int .i64 10, .int .i64 0, .int .i64 6, .int .i64 0, .int .i64 4, .int .i64 3, .int .i64 1, .int .i64 0, .int .i64 3, .int .i64 0, .int .i64 2, .int .i64 0, .int .i64 1, .int .i64 0, .int .i64 0, .int .i64 1, .int .i64 0] 22 (0, 0))) : RowQ 2 w (some ⟨g, 0, none⟩) rankL := by
  intro i hi
  refine ⟨_, rfl, fun j hj => ?_⟩
  have hi : i < 9 := hi
  have e : (⟨g, 0, none⟩ : Addr).add (i * 2 + j) = ⟨g, i * 2 + j, none⟩ := by
    unfold Addr.add
    split
    · rename_i h0; rw [h0]
    · simp
  rw [e, blk_cell hb]
  obtain rfl | rfl | rfl | rfl | rfl | rfl | rfl | rfl | rfl : i = 0 ∨ i = 1 ∨ i = 2 ∨ i = 3 ∨ i = 4 ∨ i = 5 ∨ i = 6 ∨ i = 7 ∨ i = 8 := by omega
  all_goals
    obtain rfl | rfl : j = 0 ∨ j = 1 := by omega
    all_goals rfl
set_option maxRecDepth 100000 in
set_option maxHeartbeats 2000000 in
theorem rank_calls (a b : Int) (w : World) :
    Calls Try.prog 63 #[.int .i64 a, .int .i64 b] w fun e w' => e = .returned (.int .i64 (idxP a b rankL)) ∧ Below w.heap.size w w' := by
  go_enter Try.func63, Try.ntmps63
  go_wp2_with (go_at_call 82; (refine (index_pair (some ⟨w.heap.size, 0, none⟩) 9 rankL a b _ (rank_row (blk_new _ _)) (by decide)).mono ?_); rintro e w1 ⟨rfl, hb⟩; have HB := Aside0.mk hb; clear hb)
  go_ret
  exact ⟨rfl, below_then (below_alloc (Below.refl _ _) _) (below_alloc (Below.refl _ _) _).size HB.out⟩
end Go.Proofs.Ytebmfbfmdbimdaa.F
namespace Go.Proofs.Ytebmfbfmdbimdaa.F
open Go.RowKit Go.Proofs.YtebmfbfmdbimdaaW.PrintWords Go.Proofs.YtebmfbfmdbimdaaW.PrintLast Go.Proofs.YtebmfbfmdbimdaaW.PrintMore Go.Proofs.Ytebmfbfmdbimdaa.rowQ
set_option linter.unusedVariables false
set_option linter.unusedSimpArgs false
/-- It has thrown an Errno that is not OK. -/
def Thr (e : Ending) : Prop := ∃ c : Int, c ≠ 0 ∧ e = PK c
theorem must_any (b : Bool) (c : Int) (hc : c ≠ 0) (w : World) : Calls Try.prog 54 #[.bool b, .int .i64 c] w fun e w' => ((e = .returned (.tuple #[]) ∧ b = true) ∨ (e = PK c ∧ b = false)) ∧ w' = w := by
  cases b
  · exact (must_no c w).mono fun e w' ⟨he, hw⟩ => ⟨.inr ⟨he, rfl⟩, hw⟩
  · exact (must_ok c w).mono fun e w' ⟨he, hw⟩ => ⟨.inl ⟨he, rfl⟩, hw⟩
theorem cu16_any (p : Nat) (A : Option Addr) (c : Nat) (l : List Int) (at_ : Int) (w : World) (h : View w p A c l) (hb : ∀ z ∈ l, 0 ≤ z ∧ z ≤ 255) :
    Calls Try.prog 61 #[.agg #[.pointer (some ⟨p, 0, none⟩)], .int .i64 at_] w fun e w' => (e = .returned (.int .i64 (num l at_ 2)) ∨ e = PK 51) ∧ Below w.heap.size w w' := by
  by_cases hp : partOk l at_ 2
  · exact (cu16_ok p A c l at_ w h hb hp).mono fun e w' ⟨he, hw⟩ => ⟨.inl he, hw⟩
  · exact (cu16_no p A c l at_ w h hb hp).mono fun e w' ⟨he, hw⟩ => ⟨.inr he, hw⟩
theorem cu32_any (p : Nat) (A : Option Addr) (c : Nat) (l : List Int) (at_ : Int) (w : World) (h : View w p A c l) (hb : ∀ z ∈ l, 0 ≤ z ∧ z ≤ 255) :
    Calls Try.prog 62 #[.agg #[.pointer (some ⟨p, 0, none⟩)], .int .i64 at_] w fun e w' => (e = .returned (.int .i64 (num l at_ 4)) ∨ e = PK 51) ∧ Below w.heap.size w w' := by
  by_cases hp : partOk l at_ 4
  · exact (cu32_ok p A c l at_ w h hb hp).mono fun e w' ⟨he, hw⟩ => ⟨.inl he, hw⟩
  · exact (cu32_no p A c l at_ w h hb hp).mono fun e w' ⟨he, hw⟩ => ⟨.inr he, hw⟩
theorem cu24_any (p : Nat) (A : Option Addr) (c : Nat) (l : List Int) (at_ : Int) (w : World) (h : View w p A c l) (hb : ∀ z ∈ l, 0 ≤ z ∧ z ≤ 255) :
    Calls Try.prog 75 #[.agg #[.pointer (some ⟨p, 0, none⟩)], .int .i64 at_] w fun e w' => (e = .returned (.int .i64 (num l at_ 3)) ∨ e = PK 51) ∧ Below w.heap.size w w' := by
  by_cases hp : partOk l at_ 3
  · exact (cu24_ok p A c l at_ w h hb hp).mono fun e w' ⟨he, hw⟩ => ⟨.inl he, hw⟩
  · exact (cu24_no p A c l at_ w h hb hp).mono fun e w' ⟨he, hw⟩ => ⟨.inr he, hw⟩
theorem cu8_any (p : Nat) (A : Option Addr) (c : Nat) (l : List Int) (at_ : Int) (w : World) (h : View w p A c l) (hb : ∀ z ∈ l, 0 ≤ z ∧ z ≤ 255) :
    Calls Try.prog 77 #[.agg #[.pointer (some ⟨p, 0, none⟩)], .int .i64 at_] w fun e w' => (e = .returned (.int .i64 (num l at_ 1)) ∨ e = PK 51) ∧ Below w.heap.size w w' := by
  by_cases hp : partOk l at_ 1
  · exact (cu8_ok p A c l at_ w h hb hp).mono fun e w' ⟨he, hw⟩ => ⟨.inl he, hw⟩
  · exact (cu8_no p A c l at_ w h hb hp).mono fun e w' ⟨he, hw⟩ => ⟨.inr he, hw⟩
set_option maxRecDepth 100000 in
set_option maxHeartbeats 2000000 in
theorem count_any (p : Nat) (A : Option Addr) (c : Nat) (l : List Int) (at_ : Int) (w : World) (h : View w p A c l) (hb : ∀ z ∈ l, 0 ≤ z ∧ z ≤ 255) :
    Calls Try.prog 72 #[.agg #[.pointer (some ⟨p, 0, none⟩)], .int .i64 at_] w fun e w' => ((∃ n : Nat, e = .returned (.int .i64 n) ∧ n ≤ 4096) ∨ Thr e) ∧ Below w.heap.size w w' := by
  have HP := Aside0.mk (fun W (hv : View W p A c l) => cu32_any p A c l at_ W hv hb)
  have HV := Aside0.mk h
  have HN := Aside0.mk (num_bound (l := l) (at_ := at_) (n := 4) hb (by decide))
  generalize num l at_ 4 = x at *
  clear h hb
  go_enter Try.func72, Try.ntmps72
  go_wp2_with (first | (go_at_call 62; (with_reducible refine (HP.out _ (HV.out.below (below_alloc (Below.refl _ _) _))).mono ?_); rintro e w1 ⟨rfl | rfl, hb⟩ <;> (have HB := Aside0.mk hb; clear hb)) | (go_at_call 54; (refine (must_any _ 53 (by decide) _).mono ?_); rintro e w2 ⟨⟨rfl, hm⟩ | ⟨rfl, hm⟩, rfl⟩))
  · go_ret
    obtain ⟨y, hy⟩ := Int.eq_ofNat_of_zero_le HN.out.1
    have hm := of_decide_eq_true hm
    refine ⟨.inl ⟨y, by rw [← hy]; rfl, by omega⟩, below_then (below_alloc (Below.refl _ _) _) (below_alloc (Below.refl _ _) _).size HB.out⟩
  · exact ⟨rfl, .inr ⟨53, by decide, rfl⟩, below_then (below_alloc (Below.refl _ _) _) (below_alloc (Below.refl _ _) _).size HB.out⟩
  · exact ⟨rfl, .inr ⟨51, by decide, rfl⟩, below_then (below_alloc (Below.refl _ _) _) (below_alloc (Below.refl _ _) _).size HB.out⟩
set_option maxRecDepth 100000 in
set_option maxHeartbeats 2000000 in
theorem peek_Cut_no (p : Nat) (A : Option Addr) (c : Nat) (l : List Int) (at_ n : Int) (w : World) (h : View w p A c l) (hp : ¬ partOk l at_ n) :
    Calls Try.prog 64 #[.pointer (some ⟨p, 0, none⟩), .int .i64 at_, .int .i64 n] w fun e w' => e = .returned (.tuple #[.pointer none, .int .i64 21]) ∧ w' = w := by
  have HV := Aside0.mk h
  have HP := Aside0.mk (peek_part.calls p A c l at_ n)
  have e2 : partE l at_ n = 21 := by unfold partE; rw [if_neg hp]
  rw [e2] at HP
  generalize partL l at_ n = L at *
  clear h e2 hp
  go_enter Try.func64, Try.ntmps64
  go_wp2_with (first | (go_at_call 83; (with_reducible refine (HP.out _ HV.out).mono ?_); rintro e w1 ⟨B, d, rfl, hC, hd, hw⟩; have HW := Aside0.mk hw; clear hC hd hw))
  go_ret2
  exact ⟨rfl, HW.out⟩
set_option maxRecDepth 100000 in
set_option maxHeartbeats 2000000 in
theorem tail_no (p : Nat) (A : Option Addr) (c : Nat) (l : List Int) (at_ : Int) (w : World) (h : View w p A c l) (h0 : l.length < at_) (h1 : at_ < 4294967296) (hl : l.length < 140737488355328) :
    Calls Try.prog 56 #[.agg #[.pointer (some ⟨p, 0, none⟩)], .int .i64 at_] w fun e w' => e = PK 51 ∧ Below w.heap.size w w' := by
  have hp : ¬ partOk l at_ 0 := fun hp => by have := hp.2.2.2; omega
  have HC := Aside0.mk (fun W (hv : View W p A c l) => peek_Cut_no p A c l at_ 0 W hv hp)
  have HL := Aside0.mk (fun W (hv : View W p A c l) => peek_Len.calls p A c l W hv)
  have hm : (if IntKind.i64.wrap ((l.length : Int) - at_) < 0 then 0 else IntKind.i64.wrap ((l.length : Int) - at_)) = 0 := by
    rw [IntKind.wrap_i64]
    split <;> omega
  have HM := Aside0.mk hm
  generalize hn : (l.length : Int) - at_ = n at *
  clear hm hp h0 h1
  have h := Aside0.mk h
  go_enter Try.func56, Try.ntmps56
  go_wp2
  have h := h.out
  have hr := Rd.new h
  have hr2 : Rd ((w.alloc (.cells #[.pointer (some ⟨p, 0, none⟩)] 114)).alloc (.cells #[.pointer none] 114)) w.heap.size p A c l ((w.alloc (.cells #[.pointer (some ⟨p, 0, none⟩)] 114)).alloc (.cells #[.pointer none] 114)) := ⟨blk_alloc hr.blk _, hr.view.below (below_alloc (Below.refl _ _) _), Below.refl _ _⟩
  have hbw : Below w.heap.size w ((w.alloc (.cells #[.pointer (some ⟨p, 0, none⟩)] 114)).alloc (.cells #[.pointer none] 114)) := below_alloc (below_alloc (Below.refl _ _) _) _
  obtain ⟨g, hg⟩ : ∃ g, g = w.heap.size := ⟨_, rfl⟩
  rw [← hg] at hr2 ⊢
  generalize (w.alloc (.cells #[.pointer (some ⟨p, 0, none⟩)] 114)).alloc (.cells #[.pointer none] 114) = wr at *
  have HR := Aside0.mk hr2
  have HBW := Aside0.mk hbw
  clear h hr hr2 hbw hg
  go_region_held3 (fun w' => w'.cell? ⟨g, 0, none⟩ = some (.pointer (some ⟨p, 0, none⟩)) ∧ Aside0 (Rd wr g p A c l w'))
    (first | exact rkeep HR (below_drew (Below.refl _ _)) | assumption)
    (first | (go_at_call 65; (refine (HL.out _ (held_v (w0 := wr) (g := g) (p := p) (A := A) (c := c) (l := l) (by assumption))).mono ?_); rintro e w5 ⟨rfl, rfl⟩) | (go_at_call 64; rw [HM.out]; (with_reducible refine (HC.out _ (held_v (w0 := wr) (g := g) (p := p) (A := A) (c := c) (l := l) (by assumption))).mono ?_); rintro e w5 ⟨rfl, rfl⟩))
  all_goals
    have hkp := held_b (w0 := wr) (g := g) (p := p) (A := A) (c := c) (l := l) (by assumption)
    have HK := Aside0.mk (below_then HBW.out HBW.out.size hkp)
    clear hkp
    go_wp2_with (first | (go_at_call 54; (refine (must_no 51 _).mono ?_); rintro e w6 ⟨rfl, rfl⟩))
    exact ⟨rfl, rfl, HK.out⟩
/-- The table from a place on, or it is thrown. -/
theorem tail_any (p : Nat) (A : Option Addr) (c : Nat) (l : List Int) (at_ : Int) (w : World) (h : View w p A c l) (h0 : 0 ≤ at_) (h1 : at_ < 4294967296) (hl : l.length < 140737488355328) :
    Calls Try.prog 56 #[.agg #[.pointer (some ⟨p, 0, none⟩)], .int .i64 at_] w fun e w' => ((∃ (q : Nat) (B : Option Addr) (d : Nat), e = .returned (.agg #[.pointer (some ⟨q, 0, none⟩)]) ∧ View w' q B d (l.drop at_.toNat)) ∨ Thr e) ∧ Below w.heap.size w w' := by
  by_cases hh : at_ ≤ l.length
  · exact (tail_ok p A c l at_ w h h0 hh hl).mono fun e w' ⟨q, B, d, he, hv, hb⟩ => ⟨.inl ⟨q, B, d, he, hv⟩, hb⟩
  · exact (tail_no p A c l at_ w h (by omega) h1 hl).mono fun e w' ⟨he, hb⟩ => ⟨.inr ⟨51, by decide, he⟩, hb⟩
end Go.Proofs.Ytebmfbfmdbimdaa.F
