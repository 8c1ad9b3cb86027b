/- Package cmap: a table read (one subtable of form 12 or 13, no selectors), walked. Package cmap: Read's deferred closure, where something was thrown (CmapBounds). -/
import Derived.Test.YtebmfbfmdbimdaaZCmap6
import Derived.Defers
import Derived.Recover
import Derived.Test.YtebmfbfmdbimdaaZC12
import Derived.RegionTactic
namespace Go.Proofs.Ytebmfbfmdbimdaa.F
open Go.RowKit Go.Proofs.YtebmfbfmdbimdaaW.PrintWords Go.Proofs.YtebmfbfmdbimdaaW.PrintLast Go.Proofs.YtebmfbfmdbimdaaW.PrintMore Go.Proofs.Ytebmfbfmdbimdaa.rowQ
set_option linter.unusedVariables false
set_option linter.unusedSimpArgs false
theorem catch_idle (p q : Addr) (w : World) :
    CallsD Try.prog 53 #[.pointer (some p), .pointer (some q)] .returning w fun e u' w' => e = .returned (.tuple #[]) ∧ u' = .returning ∧ w' = w := by
  refine callsD_of_wpS Try.func53 rfl fun c₀ cs hu => ?_
  apply wpS_seq
  apply wpS_region
  simp [wpOpsS, go_sem, recoverD, hu, Try.ntmps53, Exit.thenS]
  apply wpS_seq
  apply wpS_region
  simp [wpOpsS, go_sem, Exit.thenS]
  refine wpS_cond (t := false) (by simp [Act.eval, Array.replicate]) ?_
  simp only [Bool.false_eq_true, if_false]
  refine wpS_of_wp (wp_skip ?_)
  cases c₀
  simp_all [bodyPostS, results, Try.results53]
/-- What is known of a table: its one row, its subtable of form f at 12, its groups. -/
structure Tab (l : List Int) (P E k f : Int) (n : Nat) : Prop where
  byte : ∀ z ∈ l, 0 ≤ z ∧ z ≤ 255
  len : 28 + 12 * n ≤ l.length
  few : l.length < 140737488355328
  e0 : num l 0 2 = 0
  e2 : num l 2 2 = 1
  e4 : num l 4 2 = P
  e6 : num l 6 2 = E
  e8 : num l 8 4 = 12
  hk : idxP P E rankL = k
  h0 : 0 ≤ k
  hv : (P == 0 && E == 5) = false
  ef : num (l.drop 12) 0 2 = f
  ff : f = 12 ∨ f = 13
  en : num (l.drop 12) 12 4 = n
  hn : n ≤ 4096
  hm : ∀ i, i < n → num (l.drop 12) (20 + 12 * i) 4 ≤ 1114111
  hr : ∀ i, i < n → num (l.drop 12) (16 + 12 * i) 4 ≤ num (l.drop 12) (20 + 12 * i) 4 ∧ prevTo (l.drop 12) i < num (l.drop 12) (16 + 12 * i) 4
/-- Read's own variables: the two results, the reader. -/
structure Rf (w : World) (p : Nat) (mv ev : Value) (wx : World) : Prop where
  b4 : wx.heap[w.heap.size]? = some (.cells #[mv] 57 (0, 0))
  b5 : wx.heap[w.heap.size + 1]? = some (.cells #[ev] 26 (0, 0))
  b6 : wx.heap[w.heap.size + 1 + 1]? = some (.cells #[.pointer (some ⟨p, 0, none⟩)] 114 (0, 0))
  bel : Below w.heap.size w wx
section
variable {w wx wy : World} {p : Nat} {mv ev : Value}
theorem Rf.step (r : Rf w p mv ev wx) {M : Nat} (hb : Below M wx wy) (hM : w.heap.size + 1 + 1 < M) : Rf w p mv ev wy :=
  ⟨(hb.block _ (by omega)).trans r.b4, (hb.block _ (by omega)).trans r.b5, (hb.block _ (by omega)).trans r.b6, r.bel.trans (hb.mono (by omega))⟩
theorem Rf.below (r : Rf w p mv ev wx) (hb : Below wx.heap.size wx wy) : Rf w p mv ev wy := r.step hb (blk_lt r.b6)
theorem Rf.set4 (r : Rf w p mv ev wx) (u : Value) : Rf w p u ev (wx.setCell ⟨w.heap.size, 0, none⟩ u) :=
  ⟨blk_set r.b4 0 u, blk_far r.b5 (by simp) _, blk_far r.b6 (by simp; omega) _, below_set r.bel (Nat.le_refl _)⟩
theorem Rf.set5 (r : Rf w p mv ev wx) (u : Value) : Rf w p mv u (wx.setCell ⟨w.heap.size + 1, 0, none⟩ u) :=
  ⟨blk_far r.b4 (by simp) _, blk_set r.b5 0 u, blk_far r.b6 (by simp) _, below_set r.bel (by omega)⟩
theorem Rf.new (w : World) (p : Nat) : Rf w p (.pointer none) (.int .i64 0) (((w.alloc (.cells #[.pointer none] 57)).alloc (.cells #[.int .i64 0] 26)).alloc (.cells #[.pointer (some ⟨p, 0, none⟩)] 114)) := by
  have h5 := blk_new (w.alloc (.cells #[.pointer none] 57)) (.cells #[.int .i64 0] 26)
  have h6 := blk_new ((w.alloc (.cells #[.pointer none] 57)).alloc (.cells #[.int .i64 0] 26)) (.cells #[.pointer (some ⟨p, 0, none⟩)] 114)
  rw [show (w.alloc (.cells #[.pointer none] 57)).heap.size = w.heap.size + 1 from by simp] at h5
  rw [show ((w.alloc (.cells #[.pointer none] 57)).alloc (.cells #[.int .i64 0] 26)).heap.size = w.heap.size + 1 + 1 from by simp] at h6
  exact ⟨blk_alloc (blk_alloc (blk_new _ _) _) _, blk_alloc h5 _, h6, below_alloc (below_alloc (below_alloc (Below.refl _ _) _) _) _⟩
theorem Rf.cells (r : Rf w p mv ev wx) : wx.cell? ⟨w.heap.size, 0, none⟩ = some mv ∧ wx.frozen? ⟨w.heap.size, 0, none⟩ = false ∧ wx.cell? ⟨w.heap.size + 1, 0, none⟩ = some ev ∧ wx.frozen? ⟨w.heap.size + 1, 0, none⟩ = false ∧ wx.cell? ⟨w.heap.size + 1 + 1, 0, none⟩ = some (.pointer (some ⟨p, 0, none⟩)) :=
  ⟨(blk_cell r.b4 0).trans rfl, blk_frozen r.b4 0, (blk_cell r.b5 0).trans rfl, blk_frozen r.b5 0, (blk_cell r.b6 0).trans rfl⟩
end
set_option maxRecDepth 100000 in
set_option maxHeartbeats 4000000 in
theorem read_ok (w : World) (p : Nat) (A : Option Addr) (c : Nat) (l : List Int) (P E k f G : Int) (n : Nat) (hv : View w p A c l) (hT : Tab l P E k f n) (hG : 1 ≤ G ∧ G ≤ 4096) :
    Calls Try.prog 41 #[.pointer (some ⟨p, 0, none⟩), .int .i64 G] w fun e w' => ∃ (m : Nat) (v : Value), e = .returned (.tuple #[.pointer (some ⟨m, 0, none⟩), .int .i64 0]) ∧ w'.ownsRow w.heap.size 95 4 v n ((grps (l.drop 12) f n).map (Value.int .i64)) ∧
      w'.heap[m]? = some (.cells #[.int .i64 f, .int .i64 G, v, .nilFunc, .slice none 0 0] 93 (0, 0)) ∧ w.heap.size ≤ m ∧ Below w.heap.size w w' := by
  have C1 := Aside0.mk (fun W (hv : View W p A c l) => choose_one p A c l P E k W hv hT.byte (by have := hT.len; omega) hT.e0 hT.e2 hT.e4 hT.e6 hT.e8 hT.hk hT.h0 hT.hv)
  have C2 := Aside0.mk (fun W (hv : View W p A c l) => tail_ok p A c l 12 W hv (by decide) (by have := hT.len; omega) hT.few)
  rw [show (12 : Int).toNat = 12 from rfl] at C2
  have C3 := Aside0.mk (fun (W : World) (m q : Nat) (B : Option Addr) (d : Nat) (hq : View W q B d (l.drop 12)) hm => subtable_ok W m q B d (l.drop 12) f G n hq hm (fun z hz => hT.byte z (List.mem_of_mem_drop hz)) hT.ef hT.ff hT.en hT.hn (by have := hT.len; rw [List.length_drop]; omega) hT.hm hT.hr)
  have hmf : ∀ (fn : Fn) (first cap : Array Value) (w : World), (Instr.makeFunc fn first cap).run Try.prog w = .ok (.func fn first cap) w := fun _ _ _ _ => rfl
  have d1 : decide (1 ≤ G) = true := decide_eq_true hG.1
  have d2 : decide (G ≤ 4096) = true := decide_eq_true hG.2
  have HV := Aside0.mk hv
  have HF := Aside0.mk (Rf.new w p)
  clear hv hT
  go_enter_defers Try.func41, Try.ntmps41
  go_upto_region 6 with (first | (go_at_call 54; (refine (must_ok 53 _).mono ?_); rintro e w6 ⟨rfl, rfl⟩) | (go_at_call 55; ((with_reducible refine (C1.out _ (HV.out.below HF.out.bel)).mono ?_); rintro e w1 ⟨rfl, hb⟩; have HF1 := Aside0.mk (HF.out.below hb); obtain ⟨q1, q2, q3, q4, q5⟩ := (HF1.out.below (below_alloc (Below.refl _ _) (.cells #[.int .i64 0, .int .i64 G, .slice none 0 0, .nilFunc, .slice none 0 0] 93))).cells; clear hb)))
  have hmb : ((w1.alloc (.cells #[.int .i64 0, .int .i64 G, .slice none 0 0, .nilFunc, .slice none 0 0] 93)).setCell ⟨w.heap.size, 0, none⟩ (.pointer (some ⟨w1.heap.size, 0, none⟩))).heap[w1.heap.size]? = some (.cells #[.int .i64 0, .int .i64 G, .slice none 0 0, .nilFunc, .slice none 0 0] 93 (0, 0)) := blk_far (blk_new _ _) (by have := blk_lt HF1.out.b6; simp; omega) _
  have hr2 := (HF1.out.below (below_alloc (Below.refl _ _) (.cells #[.int .i64 0, .int .i64 G, .slice none 0 0, .nilFunc, .slice none 0 0] 93))).set4 (.pointer (some ⟨w1.heap.size, 0, none⟩))
  have hml := blk_lt HF1.out.b6
  obtain ⟨m, hmm⟩ : ∃ m, m = w1.heap.size := ⟨_, rfl⟩
  rw [← hmm] at hmb hr2 hml ⊢
  clear q1 q2 q3 q4 q5
  generalize ((w1.alloc (.cells #[.int .i64 0, .int .i64 G, .slice none 0 0, .nilFunc, .slice none 0 0] 93)).setCell ⟨w.heap.size, 0, none⟩ (.pointer (some ⟨m, 0, none⟩))) = w2 at *
  clear hmm HF1 HF
  have HMB := Aside0.mk hmb
  have HR2 := Aside0.mk hr2
  have HML := Aside0.mk hml
  clear hmb hr2 hml
  go_cut [] from 27 to 31 (fun wx => ∃ v : Value, Aside0 (wx.ownsRow w.heap.size 95 4 v n ((grps (l.drop 12) f n).map (Value.int .i64))) ∧ Aside0 (wx.heap[m]? = some (.cells #[.int .i64 f, .int .i64 G, v, .nilFunc, .slice none 0 0] 93 (0, 0))) ∧ Aside0 (Rf w p (.pointer (some ⟨m, 0, none⟩)) (.int .i64 0) wx))
  case first =>
    obtain ⟨q1, q2, q3, q4, q5⟩ := HR2.out.cells
    refine wp_region_noPanic ?_
    go_region_with (first | (go_at_call 56; ((with_reducible refine (C2.out _ (HV.out.below (HR2.out.below (below_drew (Below.refl _ _))).bel)).mono ?_); rintro e w5 ⟨q, B, d, rfl, hvq, hb⟩; have HR5 := Aside0.mk (HR2.out.below (Below.trans (below_drew (Below.refl _ _)) hb)); have HM5 := Aside0.mk (blk_below HMB.out (Below.trans (below_drew (Below.refl _ _)) hb)); have HQ5 := Aside0.mk hvq; have k1 := HR5.out.cells.1; clear hb hvq)) | (go_at_call 57; ((with_reducible refine (C3.out _ m q B d HQ5.out HM5.out).mono ?_); rintro e w6 ⟨rfl, v, ho, hmp, hb⟩; have HR6 := Aside0.mk (HR5.out.step hb HML.out); have HO6 := Aside0.mk (own_low ho HR5.out.bel.size); have HM6 := Aside0.mk hmp; clear ho hmp hb)))
    all_goals
      refine NoPanic.normal ?_
      go_wp2_with fail
      go_meet
      exact ⟨v, HO6, HM6, HR6⟩
  case rest =>
    obtain ⟨v, HO, HM, HR⟩ := hcut
    obtain ⟨q1, q2, q3, q4, q5⟩ := HR.out.cells
    have hr7 := (HR.out.set4 (.pointer (some ⟨m, 0, none⟩)))
    obtain ⟨t1, t2, t3, t4, t5⟩ := hr7.cells
    have HR8 := Aside0.mk (hr7.set5 (.int .i64 0))
    clear hr7
    go_wp2_with fail
    have HM8 := Aside0.mk (blk_far (blk_far HM.out (p := ⟨w.heap.size, 0, none⟩) (by have := HML.out; simp; omega) (.pointer (some ⟨m, 0, none⟩))) (p := ⟨w.heap.size + 1, 0, none⟩) (by have := HML.out; simp; omega) (.int .i64 0))
    have HO8 := Aside0.mk (own_setCell (own_setCell HO.out (p := ⟨w.heap.size, 0, none⟩) (own_ne HO.out HR.out.b4 (by decide)) (.pointer (some ⟨m, 0, none⟩))) (p := ⟨w.heap.size + 1, 0, none⟩) (own_ne HO.out HR.out.b5 (by decide)) (.int .i64 0))
    refine leaves_cons (f := 53) (args := #[.pointer (some ⟨w.heap.size, 0, none⟩), .pointer (some ⟨w.heap.size + 1, 0, none⟩)]) (by simp) (by simp [go_sem]) ?_
    refine (catch_idle _ _ _).mono ?_
    rintro e u' w'' ⟨rfl, rfl, rfl⟩
    obtain ⟨s1, s2, s3, s4, s5⟩ := HR8.out.cells
    generalize ((wc.setCell ⟨w.heap.size, 0, none⟩ (.pointer (some ⟨m, 0, none⟩))).setCell ⟨w.heap.size + 1, 0, none⟩ (.int .i64 0)) = wf at *
    simp [Leaves, settle, results, Try.results41, go_sem, s1, s3]
    exact ⟨v, HO8.out, HM8.out, (by have := HML.out; omega), HR8.out.bel⟩
end Go.Proofs.Ytebmfbfmdbimdaa.F
namespace Go.Proofs.Ytebmfbfmdbimdaa.F
open Go.RowKit Go.Proofs.YtebmfbfmdbimdaaW.PrintWords Go.Proofs.YtebmfbfmdbimdaaW.PrintLast Go.Proofs.YtebmfbfmdbimdaaW.PrintMore
set_option linter.unusedVariables false
set_option linter.unusedSimpArgs false
set_option maxHeartbeats 1000000 in
theorem catch_thrown (p q : Nat) (mv ev : Value) (c : Int) (older : List PanicEntry) (w : World) (hp : w.heap[p]? = some (.cells #[mv] 57 (0, 0))) (hq : w.heap[q]? = some (.cells #[ev] 26 (0, 0))) :
    CallsD Try.prog 53 #[.pointer (some ⟨p, 0, none⟩), .pointer (some ⟨q, 0, none⟩)] (.panicking ({ v := .iface 26 (.int .i64 c), recovered := false } :: older)) w fun e u' w' => e = .returned (.tuple #[]) ∧ u' = .panicking ({ v := .iface 26 (.int .i64 c), recovered := true } :: older) ∧ ∃ w1, w1.heap = w.heap ∧ Below w.heap.size w w1 ∧ w' = (w1.setCell ⟨p, 0, none⟩ (.pointer none)).setCell ⟨q, 0, none⟩ (.int .i64 c) := by
  have c1 := (blk_cell hp 0).trans rfl
  have f1 := blk_frozen hp 0
  have c2 := (blk_cell hq 0).trans rfl
  have f2 := blk_frozen hq 0
  have hpq : p ≠ q := blk_ne hp hq (by decide)
  refine callsD_of_wpS Try.func53 rfl fun c₀ cs hu => ?_
  apply wpS_seq
  apply wpS_region
  simp [wpOpsS, go_sem, recoverD, hu, Try.ntmps53, Exit.thenS]
  apply wpS_seq
  apply wpS_region
  simp [wpOpsS, go_sem, Exit.thenS]
  refine wpS_cond (t := true) (by simp [Act.eval, Array.replicate]) ?_
  simp only [if_true]
  refine wpS_of_wp ?_
  have c1d : w.drew.cell? ⟨p, 0, none⟩ = some mv := c1
  have c2d : w.drew.cell? ⟨q, 0, none⟩ = some ev := c2
  have hta : ∀ W : World, (Instr.typeAssert (.iface 26 (.int .i64 c)) 20 26 false).run Try.prog W = .ok (.int .i64 c) W := fun W => by kernel_rfl
  rw [show (#[Value.pointer (some ⟨p, 0, none⟩), Value.pointer (some ⟨q, 0, none⟩)] ++ ((((Array.replicate 6 undef).setIfInBounds 1 (Value.iface 26 (Value.int IntKind.i64 c))).setIfInBounds 0 (Value.iface 26 (Value.int IntKind.i64 c))).setIfInBounds 2 (Value.iface 26 (Value.int IntKind.i64 c))).setIfInBounds 3 (Value.bool true) : Array Value) = #[Value.pointer (some ⟨p, 0, none⟩), Value.pointer (some ⟨q, 0, none⟩), .iface 26 (.int .i64 c), .iface 26 (.int .i64 c), .iface 26 (.int .i64 c), .bool true, undef, undef] from rfl]
  go_region
  all_goals
    exact ⟨rfl, _, rfl, .tuple #[], by simp [results, Try.results53], rfl, rfl, w.drew, rfl, below_drew (Below.refl _ _), rfl⟩
end Go.Proofs.Ytebmfbfmdbimdaa.F
