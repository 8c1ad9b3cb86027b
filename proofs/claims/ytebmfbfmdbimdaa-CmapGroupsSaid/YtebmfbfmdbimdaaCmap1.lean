/- Package cmap: cuts, counts, rows and the choice of a subtable, walked (where nothing is thrown). -/
import Derived.Test.YtebmfbfmdbimdaaCmap0
import Derived.Test.YtebmfbfmdbimdaaQuads
import Derived.Deep.RegionHeld3
import Derived.Deep.LoopGhost
import Derived.Deep.QuietTactic
import Derived.BigQuiet
namespace Go.Proofs.Ytebmfbfmdbimdaa.F
open Go.RowKit Go.Proofs.YtebmfbfmdbimdaaW.PrintWords Go.Proofs.YtebmfbfmdbimdaaW.PrintLast Go.Proofs.YtebmfbfmdbimdaaW.PrintMore Go.Proofs.Ytebmfbfmdbimdaa.rowQ
attribute [local go_sem] max2_int min2_int max_two min_two max_three min_three max_four min_four
set_option linter.unusedVariables false
set_option linter.unusedSimpArgs false
set_option maxRecDepth 100000 in
set_option maxHeartbeats 2000000 in
theorem peek_Cut.calls (p : Nat) (A : Option Addr) (c : Nat) (l : List Int) (at_ n : Int) (w : World) (h : View w p A c l) (hp : partOk l at_ n) :
    Calls Try.prog 64 #[.pointer (some ⟨p, 0, none⟩), .int .i64 at_, .int .i64 n] w fun e w' => ∃ (q : Nat) (B : Option Addr) (d : Nat), e = .returned (.tuple #[.pointer (some ⟨q, 0, none⟩), .int .i64 0]) ∧ w.heap.size ≤ q ∧ View w' q B d (partL l at_ n) ∧ Below w.heap.size w w' := by
  have HV := Aside0.mk h
  have HP := Aside0.mk (peek_part.calls p A c l at_ n)
  have e2 : partE l at_ n = 0 := by unfold partE; rw [if_pos hp]
  rw [e2] at HP
  generalize partL l at_ n = L at *
  clear h e2 hp
  go_enter Try.func64, Try.ntmps64
  go_wp2_with (first | (go_at_call 83; (with_reducible refine (HP.out _ HV.out).mono ?_); rintro e w1 ⟨B, d, rfl, hC, hd, hw⟩; have HC := Aside0.mk hC; have HW := Aside0.mk hw; clear hC hw))
  go_ret2
  have hw := HW.out
  subst hw
  have hbk := heap_alloc_new w1 (.cells #[.slice B L.length d] 111 (0, 0))
  exact ⟨_, B, d, rfl, Nat.le_refl _, ⟨hbk, Kd.C_below HC.out (below_alloc (Below.refl _ _) _), hd⟩, (Below.refl _ _).alloc (Nat.le_refl _) _⟩
theorem View.set {w : World} {p : Nat} {A : Option Addr} {c : Nat} {l : List Int} (h : View w p A c l) {g : Nat} {cs : Array Value} {t : TypeId} (hb : w.heap[g]? = some (.cells cs t (0, 0))) (hpg : p ≠ g) (hcs : ∀ (i : Nat) (z : Int), cs[i]? ≠ some (.int .u8 z)) (i : Nat) (v : Value) :
    View (w.setCell ⟨g, i, none⟩ v) p A c l := by
  refine ⟨blk_far h.blk hpg _, ?_, h.cap⟩
  refine Kd.C_foot_ne (g := g) (fun h => h) h.row (fun ad he hn hg => ?_) _ (KeepBut.set_ (KeepBut.refl _ _ _) _ _)
  obtain ⟨ad', e, hx⟩ := Kd.at_int h.row (0 : Int) (by omega) (by omega)
  have hbl : (ad'.add ((0 : Int).toNat)).block = g := by
    rw [he] at e
    injection e with e
    rw [← e, ← hg]
    exact add_block _ _
  unfold World.cell? at hx
  rw [hbl, hb] at hx
  simp only at hx
  split at hx
  · cases hx
  · exact hcs _ _ hx
/-- Block g holds a reader of the view p. -/
structure Rd (w0 : World) (g p : Nat) (A : Option Addr) (c : Nat) (l : List Int) (w : World) : Prop where
  blk : w.heap[g]? = some (.cells #[.pointer (some ⟨p, 0, none⟩)] 114 (0, 0))
  view : View w p A c l
  bel : Below w0.heap.size w0 w
theorem Rd.below {w0 : World} {g p : Nat} {A : Option Addr} {c : Nat} {l : List Int} {w w' : World} (h : Rd w0 g p A c l w) (hb : Below w.heap.size w w') : Rd w0 g p A c l w' :=
  ⟨blk_below h.blk hb, h.view.below hb, below_then h.bel h.bel.size hb⟩
theorem Rd.cell {w0 : World} {g p : Nat} {A : Option Addr} {c : Nat} {l : List Int} {w : World} (h : Rd w0 g p A c l w) : w.cell? ⟨g, 0, none⟩ = some (.pointer (some ⟨p, 0, none⟩)) := (blk_cell h.blk 0).trans rfl
theorem Rd.new {w : World} {p : Nat} {A : Option Addr} {c : Nat} {l : List Int} (h : View w p A c l) : Rd w w.heap.size p A c l (w.alloc (.cells #[.pointer (some ⟨p, 0, none⟩)] 114)) :=
  ⟨blk_new _ _, h.below (below_alloc (Below.refl _ _) _), below_alloc (Below.refl _ _) _⟩
section
variable {w0 w' w'' : World} {g p : Nat} {A : Option Addr} {c : Nat} {l : List Int}
theorem rkeep (h : Aside0 (Rd w0 g p A c l w')) (hb : Below w'.heap.size w' w'') : w''.cell? ⟨g, 0, none⟩ = some (.pointer (some ⟨p, 0, none⟩)) ∧ Aside0 (Rd w0 g p A c l w'') :=
  ⟨(h.out.below hb).cell, ⟨h.out.below hb⟩⟩
theorem rkeep2 (h : w'.cell? ⟨g, 0, none⟩ = some (.pointer (some ⟨p, 0, none⟩)) ∧ Aside0 (Rd w0 g p A c l w')) (hb : Below w'.heap.size w' w'') : w''.cell? ⟨g, 0, none⟩ = some (.pointer (some ⟨p, 0, none⟩)) ∧ Aside0 (Rd w0 g p A c l w'') := rkeep h.2 hb
theorem held_r (h : w'.cell? ⟨g, 0, none⟩ = some (.pointer (some ⟨p, 0, none⟩)) ∧ Aside0 (Rd w0 g p A c l w')) : Rd w0 g p A c l w' := h.2.out
theorem held_v (h : w'.cell? ⟨g, 0, none⟩ = some (.pointer (some ⟨p, 0, none⟩)) ∧ Aside0 (Rd w0 g p A c l w')) : View w' p A c l := h.2.out.view
theorem held_b (h : w'.cell? ⟨g, 0, none⟩ = some (.pointer (some ⟨p, 0, none⟩)) ∧ Aside0 (Rd w0 g p A c l w')) : Below w0.heap.size w0 w' := h.2.out.bel
end
set_option maxRecDepth 100000 in
set_option maxHeartbeats 2000000 in
theorem count_ok (p : Nat) (A : Option Addr) (c : Nat) (l : List Int) (at_ : Int) (w : World) (h : View w p A c l) (hb : ∀ z ∈ l, 0 ≤ z ∧ z ≤ 255) (hp : partOk l at_ 4) (hn : num l at_ 4 ≤ 4096) :
    Calls Try.prog 72 #[.agg #[.pointer (some ⟨p, 0, none⟩)], .int .i64 at_] w fun e w' => e = .returned (.int .i64 (num l at_ 4)) ∧ Below w.heap.size w w' := by
  have HP := Aside0.mk (fun W (hv : View W p A c l) => cu32_ok p A c l at_ W hv hb hp)
  have HV := Aside0.mk h
  have hd : decide (num l at_ 4 ≤ 4096) = true := decide_eq_true hn
  generalize num l at_ 4 = x at *
  clear h hb hp hn
  go_enter Try.func72, Try.ntmps72
  go_wp2_with (first | (go_at_call 62; (refine (HP.out _ (HV.out.below (below_alloc (Below.refl _ _) _))).mono ?_); rintro e w1 ⟨rfl, hb⟩; have HB := Aside0.mk hb; clear hb) | (go_at_call 54; (refine (must_ok 53 _).mono ?_); rintro e w2 ⟨rfl, rfl⟩))
  go_ret
  exact ⟨rfl, below_then (below_alloc (Below.refl _ _) _) (below_alloc (Below.refl _ _) _).size HB.out⟩
set_option maxRecDepth 100000 in
set_option maxHeartbeats 4000000 in
theorem tail_ok (p : Nat) (A : Option Addr) (c : Nat) (l : List Int) (at_ : Int) (w : World) (h : View w p A c l) (h0 : 0 ≤ at_) (h1 : at_ ≤ l.length) (hl : l.length < 140737488355328) :
    Calls Try.prog 56 #[.agg #[.pointer (some ⟨p, 0, none⟩)], .int .i64 at_] w fun e w' => ∃ (q : Nat) (B : Option Addr) (d : Nat), e = .returned (.agg #[.pointer (some ⟨q, 0, none⟩)]) ∧ View w' q B d (l.drop at_.toNat) ∧ Below w.heap.size w w' := by
  have hp : partOk l at_ (l.length - at_) := ⟨h0, by omega, by omega, by omega⟩
  have eP : partL l at_ (l.length - at_) = l.drop at_.toNat := by
    unfold partL
    rw [if_pos hp, List.take_of_length_le (by omega)]
  have HC := Aside0.mk (fun W (hv : View W p A c l) => peek_Cut.calls p A c l at_ (l.length - at_) W hv hp)
  rw [eP] at HC
  have HL := Aside0.mk (fun W (hv : View W p A c l) => peek_Len.calls p A c l W hv)
  have hm : (if IntKind.i64.wrap ((l.length : Int) - at_) < 0 then 0 else IntKind.i64.wrap ((l.length : Int) - at_)) = (l.length : Int) - at_ := by
    rw [IntKind.wrap_i64]
    split <;> omega
  have HM := Aside0.mk hm
  generalize hn : (l.length : Int) - at_ = n at *
  clear hm
  generalize l.drop at_.toNat = L at *
  clear eP hp
  have h := Aside0.mk h
  go_enter Try.func56, Try.ntmps56
  go_wp2
  have h := h.out
  have hr := Rd.new h
  have hrb := blk_new (w.alloc (.cells #[.pointer (some ⟨p, 0, none⟩)] 114)) (.cells #[.pointer none] 114)
  have hr2 : Rd ((w.alloc (.cells #[.pointer (some ⟨p, 0, none⟩)] 114)).alloc (.cells #[.pointer none] 114)) w.heap.size p A c l ((w.alloc (.cells #[.pointer (some ⟨p, 0, none⟩)] 114)).alloc (.cells #[.pointer none] 114)) := ⟨blk_alloc hr.blk _, hr.view.below (below_alloc (Below.refl _ _) _), Below.refl _ _⟩
  have hbw : Below w.heap.size w ((w.alloc (.cells #[.pointer (some ⟨p, 0, none⟩)] 114)).alloc (.cells #[.pointer none] 114)) := below_alloc (below_alloc (Below.refl _ _) _) _
  rw [show (w.alloc (.cells #[.pointer (some ⟨p, 0, none⟩)] 114)).heap.size = w.heap.size + 1 from by simp] at hrb
  obtain ⟨g, hg⟩ : ∃ g, g = w.heap.size := ⟨_, rfl⟩
  rw [← hg] at hr2 hrb ⊢
  generalize (w.alloc (.cells #[.pointer (some ⟨p, 0, none⟩)] 114)).alloc (.cells #[.pointer none] 114) = wr at *
  have HR := Aside0.mk hr2
  have HRB := Aside0.mk hrb
  have HBW := Aside0.mk hbw
  have HG : Aside0 (w.heap.size ≤ g + 1) := ⟨by omega⟩
  clear h hr hr2 hrb hbw hg
  go_region_held3 (fun w' => w'.cell? ⟨g, 0, none⟩ = some (.pointer (some ⟨p, 0, none⟩)) ∧ Aside0 (Rd wr g p A c l w'))
    (first | exact rkeep HR (below_drew (Below.refl _ _)) | assumption)
    (first | (go_at_call 65; (refine (HL.out _ (held_v (w0 := wr) (g := g) (p := p) (A := A) (c := c) (l := l) (by assumption))).mono ?_); rintro e w5 ⟨rfl, rfl⟩) | (go_at_call 64; rw [HM.out]; (with_reducible refine (HC.out _ (held_v (w0 := wr) (g := g) (p := p) (A := A) (c := c) (l := l) (by assumption))).mono ?_); rintro e w5 ⟨q, B, d, rfl, hq, hv, hb⟩; have hS5 := rkeep2 (w0 := wr) (g := g) (p := p) (A := A) (c := c) (l := l) (by assumption) hb; have HVQ := Aside0.mk hv; have HQ := Aside0.mk hq; clear hv hb hq))
  all_goals
    have hkp := held_b (w0 := wr) (g := g) (p := p) (A := A) (c := c) (l := l) (by assumption)
    have hrb := blk_below HRB.out hkp
    have c1 := (blk_cell hrb 0).trans rfl
    have f1 := blk_frozen hrb 0
    have HK := Aside0.mk (below_then HBW.out HBW.out.size hkp)
    have HRB6 := Aside0.mk hrb
    clear hkp hrb
    go_wp2_with (first | (go_at_call 54; (refine (must_ok 51 _).mono ?_); rintro e w6 ⟨rfl, rfl⟩))
    have hb6 := HRB6.out
    have c2 := (blk_cell (blk_set hb6 0 (.pointer (some ⟨q, 0, none⟩))) 0).trans rfl
    have hq : wr.heap.size ≤ q := HQ.out
    have hgw := blk_lt HRB.out
    refine bodyPost_ret (v := .agg #[.pointer (some ⟨q, 0, none⟩)]) (by simp [results, Try.results56, go_sem, c2]) rfl ⟨q, B, d, rfl, ?_, ?_⟩
    · refine HVQ.out.set hb6 (by omega) (fun i z => ?_) 0 _
      rcases i with _ | i <;> simp
    · exact below_set HK.out HG.out
end Go.Proofs.Ytebmfbfmdbimdaa.F
