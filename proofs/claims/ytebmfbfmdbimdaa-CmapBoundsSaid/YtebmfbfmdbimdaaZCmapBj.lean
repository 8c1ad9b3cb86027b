/- Package cmap, whatever the bytes: Read, walked (CmapBounds). -/
import Derived.Test.YtebmfbfmdbimdaaZCmapBi
namespace Go.Proofs.Ytebmfbfmdbimdaa.F
open Go.RowKit Go.Proofs.YtebmfbfmdbimdaaW.PrintWords Go.Proofs.YtebmfbfmdbimdaaW.PrintLast Go.Proofs.YtebmfbfmdbimdaaW.PrintMore
set_option linter.unusedVariables false
set_option linter.unusedSimpArgs false
/-- What Read hands back: a map, or an Errno that is not OK. -/
def ReadP (G : Int) (w : World) (e : Ending) (w' : World) : Prop := ((∃ m, e = .returned (.tuple #[.pointer (some ⟨m, 0, none⟩), .int .i64 0]) ∧ MapOk m G w' ∧ 1 ≤ G) ∨ (∃ c : Int, c ≠ 0 ∧ e = .returned (.tuple #[.pointer none, .int .i64 c]))) ∧ Below w.heap.size w w'
theorem readP_no {G : Int} {w : World} {c : Int} (hc : c ≠ 0) (w' : World) (hb : Below w.heap.size w w') : ReadP G w (.returned (.tuple #[.pointer none, .int .i64 c])) w' := ⟨.inr ⟨c, hc, rfl⟩, hb⟩
theorem tail_thr {p : Nat} {A : Option Addr} {c : Nat} {l : List Int} {at_ : Int} {w : World} (h : View w p A c l) (h0 : 0 ≤ at_) (h1 : at_ < 4294967296) (hl : l.length < 140737488355328) :
    Calls Try.prog 56 #[.agg #[.pointer (some ⟨p, 0, none⟩)], .int .i64 at_] w fun e w' => ((∃ q : Nat, e = .returned (.agg #[.pointer (some ⟨q, 0, none⟩)]) ∧ ∃ (B : Option Addr) (d : Nat), View w' q B d (l.drop at_.toNat)) ∨ Thr e) ∧ Below w.heap.size w w' :=
  (tail_any p A c l at_ w h h0 h1 hl).mono fun e w' ⟨he, hb⟩ => ⟨he.imp (fun ⟨q, B, d, h1, h2⟩ => ⟨q, h1, B, d, h2⟩) id, hb⟩
/-- A call that hands back nothing or throws. -/
theorem Calls.unit {P : Program} {f : FuncId} {args : Array Value} {w : World} {R : Ending → World → Prop} {Good : World → Prop} {m : Nat} (h : Calls P f args w fun e w' => ((e = .returned (.tuple #[]) ∧ Good w') ∨ Thr e) ∧ Below m w w')
    (hpan : ∀ c w', c ≠ 0 → Below m w w' → R (PK c) w') (hret : ∀ w', Good w' → Below m w w' → R (.returned (.tuple #[])) w') : Calls P f args w R :=
  h.mono fun e w' ⟨he, hb⟩ => by
    rcases he with ⟨rfl, hg⟩ | ⟨c, hc, rfl⟩
    · exact hret _ hg hb
    · exact hpan c _ hc hb
set_option maxRecDepth 100000 in
set_option maxHeartbeats 8000000 in
theorem read_any (w : World) (p : Nat) (A : Option Addr) (c : Nat) (l : List Int) (G : Int) (hv : View w p A c l) (hb : ∀ z ∈ l, 0 ≤ z ∧ z ≤ 255) (hl : l.length < 140737488355328) :
    Calls Try.prog 41 #[.pointer (some ⟨p, 0, none⟩), .int .i64 G] w (ReadP G w) := by
  have C1 := Aside0.mk (fun W (hv : View W p A c l) => choose_any p A c l W hv hb)
  have C2 := Aside0.mk (fun (at_ : Int) W (hv : View W p A c l) (h0 : 0 ≤ at_) (h1 : at_ < 4294967296) => tail_thr (at_ := at_) hv h0 h1 hl)
  have C3 := Aside0.mk (fun (at_ : Int) (W : World) (m q : Nat) (B : Option Addr) (d : Nat) (hq : View W q B d (l.drop at_.toNat)) hm => subt_any W m q B d (l.drop at_.toNat) G hq hm (fun z hz => hb z (List.mem_of_mem_drop hz)) (by rw [List.length_drop]; omega))
  have hmf : ∀ (fn : Fn) (first cap : Array Value) (w : World), (Instr.makeFunc fn first cap).run Try.prog w = .ok (.func fn first cap) w := fun _ _ _ _ => rfl
  have HV := Aside0.mk hv
  have HF := Aside0.mk (Rf.new w p)
  have HBy := Aside0.mk hb
  clear hv hb hl
  by_cases hG : 1 ≤ G
  · have d1 : decide (1 ≤ G) = true := decide_eq_true hG
    go_enter_defers Try.func41, Try.ntmps41
    go_upto_region 6 with (first | (go_at_call 54; refine Calls.must ?_ ?_; (exact read_thrown (by decide) (two_cells w).1 (two_cells w).2.1 (two_cells w).2.2 rfl rfl (readP_no (by decide))); intro hm1) | (go_at_call 55; ((with_reducible refine (C1.out _ (HV.out.below HF.out.bel)).mono ?_); rintro e w1 ⟨⟨a, va, rfl, ha0, ha1, hva⟩ | ⟨cc, hcc, rfl⟩, hb⟩ <;> (have HF1 := Aside0.mk (HF.out.below hb); clear hb); rotate_left; exact read_thrown hcc HF1.out.b4 HF1.out.b5 HF1.out.bel rfl rfl (readP_no hcc); have HA := Aside0.mk (And.intro ha0 (And.intro ha1 hva)); obtain ⟨q1, q2, q3, q4, q5⟩ := (HF1.out.below (below_alloc (Below.refl _ _) (.cells #[.int .i64 0, .int .i64 G, .slice none 0 0, .nilFunc, .slice none 0 0] 93))).cells)))
    have hmb : ((w1.alloc (.cells #[.int .i64 0, .int .i64 G, .slice none 0 0, .nilFunc, .slice none 0 0] 93)).setCell ⟨w.heap.size, 0, none⟩ (.pointer (some ⟨w1.heap.size, 0, none⟩))).heap[w1.heap.size]? = some (.cells #[.int .i64 0, .int .i64 G, .slice none 0 0, .nilFunc, .slice none 0 0] 93 (0, 0)) := blk_far (blk_new _ _) (by have := blk_lt HF1.out.b6; simp; omega) _
    have hr2 := (HF1.out.below (below_alloc (Below.refl _ _) (.cells #[.int .i64 0, .int .i64 G, .slice none 0 0, .nilFunc, .slice none 0 0] 93))).set4 (.pointer (some ⟨w1.heap.size, 0, none⟩))
    have hml := blk_lt HF1.out.b6
    obtain ⟨m, hmm⟩ : ∃ m, m = w1.heap.size := ⟨_, rfl⟩
    rw [← hmm] at hmb hr2 hml ⊢
    clear q1 q2 q3 q4 q5
    generalize ((w1.alloc (.cells #[.int .i64 0, .int .i64 G, .slice none 0 0, .nilFunc, .slice none 0 0] 93)).setCell ⟨w.heap.size, 0, none⟩ (.pointer (some ⟨m, 0, none⟩))) = w2 at *
    clear hmm HF1 HF hm1 ha0 ha1 hva
    have HMB := Aside0.mk hmb
    have HR2 := Aside0.mk hr2
    have HML := Aside0.mk hml
    clear hmb hr2 hml C1
    go_cut [] from 27 to 31 (fun wx => Aside0 (∃ (f : Int) (v fn : Value), SubD m v fn wx ∧ (∀ z, v ≠ .int .u8 z) ∧ (∀ z, fn ≠ .int .u8 z) ∧ wx.heap[m]? = some (.cells #[.int .i64 f, .int .i64 G, v, fn, .slice none 0 0] 93 (0, 0))) ∧ Aside0 (Rf w p (.pointer (some ⟨m, 0, none⟩)) (.int .i64 0) wx))
    case first =>
      obtain ⟨q1, q2, q3, q4, q5⟩ := HR2.out.cells
      refine wp_region_any (by kernel_rfl) ?_
      (try (change wpAny _ _ _ _ _ _ _ (World.drew _)))
      refine wpAny_ready (rs := [0, 1, 3]) (by kernel_rfl) (by simp) ?_
      refine AllReady.cons rfl (fun K hK => ?_) ?_
      · go_simp
        refine hK _ _ ?_
        clear hK K
        try simp only [Act.put, List.setIfInBounds_toArray, List.set_cons_zero, List.set_cons_succ]
        refine wpAny_ready (rs := [1, 3]) (by kernel_rfl) (by simp) ?_
        refine AllReady.cons rfl (fun K hK => ?_) ?_
        · go_simp
          refine hK _ _ ?_
          clear hK K
          try simp only [Act.put, List.setIfInBounds_toArray, List.set_cons_zero, List.set_cons_succ]
          refine wpAny_ready (rs := [2, 3]) (by kernel_rfl) (by simp) ?_
          refine AllReady.cons rfl (fun K hK => ?_) ?_
          · go_simp
            (with_reducible refine Calls.thrown (C2.out a _ (HV.out.below (HR2.out.below (below_drew (Below.refl _ _))).bel) HA.out.1 HA.out.2.1) ?_ ?_)
            · intro cc w5 hcc hb
              have hr := HR2.out.below (Below.trans (below_drew (Below.refl _ _)) hb)
              exact read_thrown hcc hr.b4 hr.b5 hr.bel rfl rfl (readP_no hcc)
            intro q w5 hg hb
            obtain ⟨B, d, hvq⟩ := hg
            have HR5 := Aside0.mk (HR2.out.below (Below.trans (below_drew (Below.refl _ _)) hb))
            have HM5 := Aside0.mk (blk_below HMB.out (Below.trans (below_drew (Below.refl _ _)) hb))
            have HQ5 := Aside0.mk hvq
            have k1 := HR5.out.cells.1
            clear hb hvq
            refine hK _ _ ?_
            clear hK K
            try simp only [Act.put, List.setIfInBounds_toArray, List.set_cons_zero, List.set_cons_succ]
            refine wpAny_ready (rs := [3]) (by kernel_rfl) (by simp) ?_
            refine AllReady.cons rfl (fun K hK => ?_) ?_
            · go_simp
              refine hK _ _ ?_
              clear hK K
              try simp only [Act.put, List.setIfInBounds_toArray, List.set_cons_zero, List.set_cons_succ]
              refine wpAny_ready (rs := [4]) (by kernel_rfl) (by simp) ?_
              refine AllReady.cons rfl (fun K hK => ?_) ?_
              · go_simp
                (with_reducible refine Calls.unit (C3.out a _ m q B d HQ5.out HM5.out) ?_ ?_)
                · intro cc w6 hcc hb
                  have hr := HR5.out.step hb HML.out
                  exact read_thrown hcc hr.b4 hr.b5 hr.bel rfl rfl (readP_no hcc)
                intro w6 hg hb
                have HR6 := Aside0.mk (HR5.out.step hb HML.out)
                have HG6 := Aside0.mk hg.data
                clear hb hg
                refine hK _ _ ?_
                clear hK K
                try simp only [Act.put, List.setIfInBounds_toArray, List.set_cons_zero, List.set_cons_succ]
                refine wpAny_done (by kernel_rfl) ?_ _
                go_wp2_with fail
                go_meet
                exact ⟨HG6, HR6⟩
              exact AllReady.nil
            exact AllReady.nil
          refine AllReady.cons rfl (fun K hK => ?_) ?_
          · go_simp
            refine hK _ _ ?_
            clear hK K
            try simp only [Act.put, List.setIfInBounds_toArray, List.set_cons_zero, List.set_cons_succ]
            refine wpAny_ready (rs := [2]) (by kernel_rfl) (by simp) ?_
            refine AllReady.cons rfl (fun K hK => ?_) ?_
            · go_simp
              (with_reducible refine Calls.thrown (C2.out a _ (HV.out.below (HR2.out.below (below_drew (Below.refl _ _))).bel) HA.out.1 HA.out.2.1) ?_ ?_)
              · intro cc w5 hcc hb
                have hr := HR2.out.below (Below.trans (below_drew (Below.refl _ _)) hb)
                exact read_thrown hcc hr.b4 hr.b5 hr.bel rfl rfl (readP_no hcc)
              intro q w5 hg hb
              obtain ⟨B, d, hvq⟩ := hg
              have HR5 := Aside0.mk (HR2.out.below (Below.trans (below_drew (Below.refl _ _)) hb))
              have HM5 := Aside0.mk (blk_below HMB.out (Below.trans (below_drew (Below.refl _ _)) hb))
              have HQ5 := Aside0.mk hvq
              have k1 := HR5.out.cells.1
              clear hb hvq
              refine hK _ _ ?_
              clear hK K
              try simp only [Act.put, List.setIfInBounds_toArray, List.set_cons_zero, List.set_cons_succ]
              refine wpAny_ready (rs := [4]) (by kernel_rfl) (by simp) ?_
              refine AllReady.cons rfl (fun K hK => ?_) ?_
              · go_simp
                (with_reducible refine Calls.unit (C3.out a _ m q B d HQ5.out HM5.out) ?_ ?_)
                · intro cc w6 hcc hb
                  have hr := HR5.out.step hb HML.out
                  exact read_thrown hcc hr.b4 hr.b5 hr.bel rfl rfl (readP_no hcc)
                intro w6 hg hb
                have HR6 := Aside0.mk (HR5.out.step hb HML.out)
                have HG6 := Aside0.mk hg.data
                clear hb hg
                refine hK _ _ ?_
                clear hK K
                try simp only [Act.put, List.setIfInBounds_toArray, List.set_cons_zero, List.set_cons_succ]
                refine wpAny_done (by kernel_rfl) ?_ _
                go_wp2_with fail
                go_meet
                exact ⟨HG6, HR6⟩
              exact AllReady.nil
            exact AllReady.nil
          exact AllReady.nil
        refine AllReady.cons rfl (fun K hK => ?_) ?_
        · go_simp
          refine hK _ _ ?_
          clear hK K
          try simp only [Act.put, List.setIfInBounds_toArray, List.set_cons_zero, List.set_cons_succ]
          refine wpAny_ready (rs := [1]) (by kernel_rfl) (by simp) ?_
          refine AllReady.cons rfl (fun K hK => ?_) ?_
          · go_simp
            refine hK _ _ ?_
            clear hK K
            try simp only [Act.put, List.setIfInBounds_toArray, List.set_cons_zero, List.set_cons_succ]
            refine wpAny_ready (rs := [2]) (by kernel_rfl) (by simp) ?_
            refine AllReady.cons rfl (fun K hK => ?_) ?_
            · go_simp
              (with_reducible refine Calls.thrown (C2.out a _ (HV.out.below (HR2.out.below (below_drew (Below.refl _ _))).bel) HA.out.1 HA.out.2.1) ?_ ?_)
              · intro cc w5 hcc hb
                have hr := HR2.out.below (Below.trans (below_drew (Below.refl _ _)) hb)
                exact read_thrown hcc hr.b4 hr.b5 hr.bel rfl rfl (readP_no hcc)
              intro q w5 hg hb
              obtain ⟨B, d, hvq⟩ := hg
              have HR5 := Aside0.mk (HR2.out.below (Below.trans (below_drew (Below.refl _ _)) hb))
              have HM5 := Aside0.mk (blk_below HMB.out (Below.trans (below_drew (Below.refl _ _)) hb))
              have HQ5 := Aside0.mk hvq
              have k1 := HR5.out.cells.1
              clear hb hvq
              refine hK _ _ ?_
              clear hK K
              try simp only [Act.put, List.setIfInBounds_toArray, List.set_cons_zero, List.set_cons_succ]
              refine wpAny_ready (rs := [4]) (by kernel_rfl) (by simp) ?_
              refine AllReady.cons rfl (fun K hK => ?_) ?_
              · go_simp
                (with_reducible refine Calls.unit (C3.out a _ m q B d HQ5.out HM5.out) ?_ ?_)
                · intro cc w6 hcc hb
                  have hr := HR5.out.step hb HML.out
                  exact read_thrown hcc hr.b4 hr.b5 hr.bel rfl rfl (readP_no hcc)
                intro w6 hg hb
                have HR6 := Aside0.mk (HR5.out.step hb HML.out)
                have HG6 := Aside0.mk hg.data
                clear hb hg
                refine hK _ _ ?_
                clear hK K
                try simp only [Act.put, List.setIfInBounds_toArray, List.set_cons_zero, List.set_cons_succ]
                refine wpAny_done (by kernel_rfl) ?_ _
                go_wp2_with fail
                go_meet
                exact ⟨HG6, HR6⟩
              exact AllReady.nil
            exact AllReady.nil
          exact AllReady.nil
        exact AllReady.nil
      refine AllReady.cons rfl (fun K hK => ?_) ?_
      · go_simp
        refine hK _ _ ?_
        clear hK K
        try simp only [Act.put, List.setIfInBounds_toArray, List.set_cons_zero, List.set_cons_succ]
        refine wpAny_ready (rs := [0, 3]) (by kernel_rfl) (by simp) ?_
        refine AllReady.cons rfl (fun K hK => ?_) ?_
        · go_simp
          refine hK _ _ ?_
          clear hK K
          try simp only [Act.put, List.setIfInBounds_toArray, List.set_cons_zero, List.set_cons_succ]
          refine wpAny_ready (rs := [2, 3]) (by kernel_rfl) (by simp) ?_
          refine AllReady.cons rfl (fun K hK => ?_) ?_
          · go_simp
            (with_reducible refine Calls.thrown (C2.out a _ (HV.out.below (HR2.out.below (below_drew (Below.refl _ _))).bel) HA.out.1 HA.out.2.1) ?_ ?_)
            · intro cc w5 hcc hb
              have hr := HR2.out.below (Below.trans (below_drew (Below.refl _ _)) hb)
              exact read_thrown hcc hr.b4 hr.b5 hr.bel rfl rfl (readP_no hcc)
            intro q w5 hg hb
            obtain ⟨B, d, hvq⟩ := hg
            have HR5 := Aside0.mk (HR2.out.below (Below.trans (below_drew (Below.refl _ _)) hb))
            have HM5 := Aside0.mk (blk_below HMB.out (Below.trans (below_drew (Below.refl _ _)) hb))
            have HQ5 := Aside0.mk hvq
            have k1 := HR5.out.cells.1
            clear hb hvq
            refine hK _ _ ?_
            clear hK K
            try simp only [Act.put, List.setIfInBounds_toArray, List.set_cons_zero, List.set_cons_succ]
            refine wpAny_ready (rs := [3]) (by kernel_rfl) (by simp) ?_
            refine AllReady.cons rfl (fun K hK => ?_) ?_
            · go_simp
              refine hK _ _ ?_
              clear hK K
              try simp only [Act.put, List.setIfInBounds_toArray, List.set_cons_zero, List.set_cons_succ]
              refine wpAny_ready (rs := [4]) (by kernel_rfl) (by simp) ?_
              refine AllReady.cons rfl (fun K hK => ?_) ?_
              · go_simp
                (with_reducible refine Calls.unit (C3.out a _ m q B d HQ5.out HM5.out) ?_ ?_)
                · intro cc w6 hcc hb
                  have hr := HR5.out.step hb HML.out
                  exact read_thrown hcc hr.b4 hr.b5 hr.bel rfl rfl (readP_no hcc)
                intro w6 hg hb
                have HR6 := Aside0.mk (HR5.out.step hb HML.out)
                have HG6 := Aside0.mk hg.data
                clear hb hg
                refine hK _ _ ?_
                clear hK K
                try simp only [Act.put, List.setIfInBounds_toArray, List.set_cons_zero, List.set_cons_succ]
                refine wpAny_done (by kernel_rfl) ?_ _
                go_wp2_with fail
                go_meet
                exact ⟨HG6, HR6⟩
              exact AllReady.nil
            exact AllReady.nil
          refine AllReady.cons rfl (fun K hK => ?_) ?_
          · go_simp
            refine hK _ _ ?_
            clear hK K
            try simp only [Act.put, List.setIfInBounds_toArray, List.set_cons_zero, List.set_cons_succ]
            refine wpAny_ready (rs := [2]) (by kernel_rfl) (by simp) ?_
            refine AllReady.cons rfl (fun K hK => ?_) ?_
            · go_simp
              (with_reducible refine Calls.thrown (C2.out a _ (HV.out.below (HR2.out.below (below_drew (Below.refl _ _))).bel) HA.out.1 HA.out.2.1) ?_ ?_)
              · intro cc w5 hcc hb
                have hr := HR2.out.below (Below.trans (below_drew (Below.refl _ _)) hb)
                exact read_thrown hcc hr.b4 hr.b5 hr.bel rfl rfl (readP_no hcc)
              intro q w5 hg hb
              obtain ⟨B, d, hvq⟩ := hg
              have HR5 := Aside0.mk (HR2.out.below (Below.trans (below_drew (Below.refl _ _)) hb))
              have HM5 := Aside0.mk (blk_below HMB.out (Below.trans (below_drew (Below.refl _ _)) hb))
              have HQ5 := Aside0.mk hvq
              have k1 := HR5.out.cells.1
              clear hb hvq
              refine hK _ _ ?_
              clear hK K
              try simp only [Act.put, List.setIfInBounds_toArray, List.set_cons_zero, List.set_cons_succ]
              refine wpAny_ready (rs := [4]) (by kernel_rfl) (by simp) ?_
              refine AllReady.cons rfl (fun K hK => ?_) ?_
              · go_simp
                (with_reducible refine Calls.unit (C3.out a _ m q B d HQ5.out HM5.out) ?_ ?_)
                · intro cc w6 hcc hb
                  have hr := HR5.out.step hb HML.out
                  exact read_thrown hcc hr.b4 hr.b5 hr.bel rfl rfl (readP_no hcc)
                intro w6 hg hb
                have HR6 := Aside0.mk (HR5.out.step hb HML.out)
                have HG6 := Aside0.mk hg.data
                clear hb hg
                refine hK _ _ ?_
                clear hK K
                try simp only [Act.put, List.setIfInBounds_toArray, List.set_cons_zero, List.set_cons_succ]
                refine wpAny_done (by kernel_rfl) ?_ _
                go_wp2_with fail
                go_meet
                exact ⟨HG6, HR6⟩
              exact AllReady.nil
            exact AllReady.nil
          exact AllReady.nil
        refine AllReady.cons rfl (fun K hK => ?_) ?_
        · go_simp
          refine hK _ _ ?_
          clear hK K
          try simp only [Act.put, List.setIfInBounds_toArray, List.set_cons_zero, List.set_cons_succ]
          refine wpAny_ready (rs := [0]) (by kernel_rfl) (by simp) ?_
          refine AllReady.cons rfl (fun K hK => ?_) ?_
          · go_simp
            refine hK _ _ ?_
            clear hK K
            try simp only [Act.put, List.setIfInBounds_toArray, List.set_cons_zero, List.set_cons_succ]
            refine wpAny_ready (rs := [2]) (by kernel_rfl) (by simp) ?_
            refine AllReady.cons rfl (fun K hK => ?_) ?_
            · go_simp
              (with_reducible refine Calls.thrown (C2.out a _ (HV.out.below (HR2.out.below (below_drew (Below.refl _ _))).bel) HA.out.1 HA.out.2.1) ?_ ?_)
              · intro cc w5 hcc hb
                have hr := HR2.out.below (Below.trans (below_drew (Below.refl _ _)) hb)
                exact read_thrown hcc hr.b4 hr.b5 hr.bel rfl rfl (readP_no hcc)
              intro q w5 hg hb
              obtain ⟨B, d, hvq⟩ := hg
              have HR5 := Aside0.mk (HR2.out.below (Below.trans (below_drew (Below.refl _ _)) hb))
              have HM5 := Aside0.mk (blk_below HMB.out (Below.trans (below_drew (Below.refl _ _)) hb))
              have HQ5 := Aside0.mk hvq
              have k1 := HR5.out.cells.1
              clear hb hvq
              refine hK _ _ ?_
              clear hK K
              try simp only [Act.put, List.setIfInBounds_toArray, List.set_cons_zero, List.set_cons_succ]
              refine wpAny_ready (rs := [4]) (by kernel_rfl) (by simp) ?_
              refine AllReady.cons rfl (fun K hK => ?_) ?_
              · go_simp
                (with_reducible refine Calls.unit (C3.out a _ m q B d HQ5.out HM5.out) ?_ ?_)
                · intro cc w6 hcc hb
                  have hr := HR5.out.step hb HML.out
                  exact read_thrown hcc hr.b4 hr.b5 hr.bel rfl rfl (readP_no hcc)
                intro w6 hg hb
                have HR6 := Aside0.mk (HR5.out.step hb HML.out)
                have HG6 := Aside0.mk hg.data
                clear hb hg
                refine hK _ _ ?_
                clear hK K
                try simp only [Act.put, List.setIfInBounds_toArray, List.set_cons_zero, List.set_cons_succ]
                refine wpAny_done (by kernel_rfl) ?_ _
                go_wp2_with fail
                go_meet
                exact ⟨HG6, HR6⟩
              exact AllReady.nil
            exact AllReady.nil
          exact AllReady.nil
        exact AllReady.nil
      refine AllReady.cons rfl (fun K hK => ?_) ?_
      · go_simp
        refine hK _ _ ?_
        clear hK K
        try simp only [Act.put, List.setIfInBounds_toArray, List.set_cons_zero, List.set_cons_succ]
        refine wpAny_ready (rs := [0, 1]) (by kernel_rfl) (by simp) ?_
        refine AllReady.cons rfl (fun K hK => ?_) ?_
        · go_simp
          refine hK _ _ ?_
          clear hK K
          try simp only [Act.put, List.setIfInBounds_toArray, List.set_cons_zero, List.set_cons_succ]
          refine wpAny_ready (rs := [1]) (by kernel_rfl) (by simp) ?_
          refine AllReady.cons rfl (fun K hK => ?_) ?_
          · go_simp
            refine hK _ _ ?_
            clear hK K
            try simp only [Act.put, List.setIfInBounds_toArray, List.set_cons_zero, List.set_cons_succ]
            refine wpAny_ready (rs := [2]) (by kernel_rfl) (by simp) ?_
            refine AllReady.cons rfl (fun K hK => ?_) ?_
            · go_simp
              (with_reducible refine Calls.thrown (C2.out a _ (HV.out.below (HR2.out.below (below_drew (Below.refl _ _))).bel) HA.out.1 HA.out.2.1) ?_ ?_)
              · intro cc w5 hcc hb
                have hr := HR2.out.below (Below.trans (below_drew (Below.refl _ _)) hb)
                exact read_thrown hcc hr.b4 hr.b5 hr.bel rfl rfl (readP_no hcc)
              intro q w5 hg hb
              obtain ⟨B, d, hvq⟩ := hg
              have HR5 := Aside0.mk (HR2.out.below (Below.trans (below_drew (Below.refl _ _)) hb))
              have HM5 := Aside0.mk (blk_below HMB.out (Below.trans (below_drew (Below.refl _ _)) hb))
              have HQ5 := Aside0.mk hvq
              have k1 := HR5.out.cells.1
              clear hb hvq
              refine hK _ _ ?_
              clear hK K
              try simp only [Act.put, List.setIfInBounds_toArray, List.set_cons_zero, List.set_cons_succ]
              refine wpAny_ready (rs := [4]) (by kernel_rfl) (by simp) ?_
              refine AllReady.cons rfl (fun K hK => ?_) ?_
              · go_simp
                (with_reducible refine Calls.unit (C3.out a _ m q B d HQ5.out HM5.out) ?_ ?_)
                · intro cc w6 hcc hb
                  have hr := HR5.out.step hb HML.out
                  exact read_thrown hcc hr.b4 hr.b5 hr.bel rfl rfl (readP_no hcc)
                intro w6 hg hb
                have HR6 := Aside0.mk (HR5.out.step hb HML.out)
                have HG6 := Aside0.mk hg.data
                clear hb hg
                refine hK _ _ ?_
                clear hK K
                try simp only [Act.put, List.setIfInBounds_toArray, List.set_cons_zero, List.set_cons_succ]
                refine wpAny_done (by kernel_rfl) ?_ _
                go_wp2_with fail
                go_meet
                exact ⟨HG6, HR6⟩
              exact AllReady.nil
            exact AllReady.nil
          exact AllReady.nil
        refine AllReady.cons rfl (fun K hK => ?_) ?_
        · go_simp
          refine hK _ _ ?_
          clear hK K
          try simp only [Act.put, List.setIfInBounds_toArray, List.set_cons_zero, List.set_cons_succ]
          refine wpAny_ready (rs := [0]) (by kernel_rfl) (by simp) ?_
          refine AllReady.cons rfl (fun K hK => ?_) ?_
          · go_simp
            refine hK _ _ ?_
            clear hK K
            try simp only [Act.put, List.setIfInBounds_toArray, List.set_cons_zero, List.set_cons_succ]
            refine wpAny_ready (rs := [2]) (by kernel_rfl) (by simp) ?_
            refine AllReady.cons rfl (fun K hK => ?_) ?_
            · go_simp
              (with_reducible refine Calls.thrown (C2.out a _ (HV.out.below (HR2.out.below (below_drew (Below.refl _ _))).bel) HA.out.1 HA.out.2.1) ?_ ?_)
              · intro cc w5 hcc hb
                have hr := HR2.out.below (Below.trans (below_drew (Below.refl _ _)) hb)
                exact read_thrown hcc hr.b4 hr.b5 hr.bel rfl rfl (readP_no hcc)
              intro q w5 hg hb
              obtain ⟨B, d, hvq⟩ := hg
              have HR5 := Aside0.mk (HR2.out.below (Below.trans (below_drew (Below.refl _ _)) hb))
              have HM5 := Aside0.mk (blk_below HMB.out (Below.trans (below_drew (Below.refl _ _)) hb))
              have HQ5 := Aside0.mk hvq
              have k1 := HR5.out.cells.1
              clear hb hvq
              refine hK _ _ ?_
              clear hK K
              try simp only [Act.put, List.setIfInBounds_toArray, List.set_cons_zero, List.set_cons_succ]
              refine wpAny_ready (rs := [4]) (by kernel_rfl) (by simp) ?_
              refine AllReady.cons rfl (fun K hK => ?_) ?_
              · go_simp
                (with_reducible refine Calls.unit (C3.out a _ m q B d HQ5.out HM5.out) ?_ ?_)
                · intro cc w6 hcc hb
                  have hr := HR5.out.step hb HML.out
                  exact read_thrown hcc hr.b4 hr.b5 hr.bel rfl rfl (readP_no hcc)
                intro w6 hg hb
                have HR6 := Aside0.mk (HR5.out.step hb HML.out)
                have HG6 := Aside0.mk hg.data
                clear hb hg
                refine hK _ _ ?_
                clear hK K
                try simp only [Act.put, List.setIfInBounds_toArray, List.set_cons_zero, List.set_cons_succ]
                refine wpAny_done (by kernel_rfl) ?_ _
                go_wp2_with fail
                go_meet
                exact ⟨HG6, HR6⟩
              exact AllReady.nil
            exact AllReady.nil
          exact AllReady.nil
        exact AllReady.nil
      exact AllReady.nil
    case rest =>
      obtain ⟨HG, HR⟩ := hcut
      obtain ⟨f, v, fn, hS, hvv, hfn, hmc⟩ := HG.out
      have HSD := Aside0.mk hS
      have HU := Aside0.mk (And.intro hvv hfn)
      have HMC := Aside0.mk hmc
      clear hS hvv hfn hmc HG HR2 HMB C3
      go_upto_if 33 with fail
      go_cut [] from 33 to 38 (fun wx => Aside0 (MapOk m G wx) ∧ Aside0 (Rf w p (.pointer (some ⟨m, 0, none⟩)) (.int .i64 0) wx))
      case first =>
        have hd : decide (0 ≤ va) = true ∨ decide (0 ≤ va) = false := by cases decide (0 ≤ va) <;> simp
        rcases hd with hd | hd
        · have hva0 : 0 ≤ va := of_decide_eq_true hd
          have HVA : Aside0 (0 ≤ va ∧ va < 4294967296) := ⟨⟨of_decide_eq_true hd, HA.out.2.2⟩⟩
          obtain ⟨q1, q2, q3, q4, q5⟩ := HR.out.cells
          go_upto_region 8 with fail
          refine wp_region_any (by kernel_rfl) ?_
          (try (change wpAny _ _ _ _ _ _ _ (World.drew _)))
          refine wpAny_ready (rs := [0, 1, 3]) (by kernel_rfl) (by simp) ?_
          refine AllReady.cons rfl (fun K hK => ?_) ?_
          · go_simp
            refine hK _ _ ?_
            clear hK K
            try simp only [Act.put, List.setIfInBounds_toArray, List.set_cons_zero, List.set_cons_succ]
            refine wpAny_ready (rs := [1, 3]) (by kernel_rfl) (by simp) ?_
            refine AllReady.cons rfl (fun K hK => ?_) ?_
            · go_simp
              refine hK _ _ ?_
              clear hK K
              try simp only [Act.put, List.setIfInBounds_toArray, List.set_cons_zero, List.set_cons_succ]
              refine wpAny_ready (rs := [2, 3]) (by kernel_rfl) (by simp) ?_
              refine AllReady.cons rfl (fun K hK => ?_) ?_
              · go_simp
                (with_reducible refine Calls.thrown (C2.out va _ (HV.out.below (HR.out.below (below_drew (Below.refl _ _))).bel) HVA.out.1 HVA.out.2) ?_ ?_)
                · intro cc w5 hcc hb
                  have hr := HR.out.below (Below.trans (below_drew (Below.refl _ _)) hb)
                  exact read_thrown hcc hr.b4 hr.b5 hr.bel rfl rfl (readP_no hcc)
                intro q w5 hg hb
                obtain ⟨B, d, hvq⟩ := hg
                have HR5 := Aside0.mk (HR.out.below (Below.trans (below_drew (Below.refl _ _)) hb))
                have HM5 := Aside0.mk (blk_below HMC.out (Below.trans (below_drew (Below.refl _ _)) hb))
                have HD5 := Aside0.mk (HSD.out.below (Below.trans (below_drew (Below.refl _ _)) hb))
                have HQ5 := Aside0.mk hvq
                have k1 := HR5.out.cells.1
                clear hb hvq
                refine hK _ _ ?_
                clear hK K
                try simp only [Act.put, List.setIfInBounds_toArray, List.set_cons_zero, List.set_cons_succ]
                refine wpAny_ready (rs := [3]) (by kernel_rfl) (by simp) ?_
                refine AllReady.cons rfl (fun K hK => ?_) ?_
                · go_simp
                  refine hK _ _ ?_
                  clear hK K
                  try simp only [Act.put, List.setIfInBounds_toArray, List.set_cons_zero, List.set_cons_succ]
                  refine wpAny_ready (rs := [4]) (by kernel_rfl) (by simp) ?_
                  refine AllReady.cons rfl (fun K hK => ?_) ?_
                  · go_simp
                    (with_reducible refine Calls.unit (var_any _ m q B d (l.drop va.toNat) f G v fn HQ5.out HM5.out HU.out.1 HU.out.2 (fun z hz => HBy.out z (List.mem_of_mem_drop hz))) ?_ ?_)
                    · intro cc w6 hcc hb
                      have hr := HR5.out.step hb HML.out
                      exact read_thrown hcc hr.b4 hr.b5 hr.bel rfl rfl (readP_no hcc)
                    intro w6 hg hb
                    obtain ⟨hkp, base, sv, Ss, o1, o2, o3, o4⟩ := hg
                    have HR6 := Aside0.mk (HR5.out.step hb HML.out)
                    have HG6 : Aside0 (MapOk m G w6) := ⟨⟨f, v, fn, sv, base, Ss, HD5.out.keep (Nat.le_refl _) HM5.out (by decide) (map_u8b HU.out.1 HU.out.2 (by simp)) hkp, o1, o3, o2, o4⟩⟩
                    clear hb hkp o1 o2 o3 o4
                    refine hK _ _ ?_
                    clear hK K
                    try simp only [Act.put, List.setIfInBounds_toArray, List.set_cons_zero, List.set_cons_succ]
                    refine wpAny_done (by kernel_rfl) ?_ _
                    go_wp2_with fail
                    go_meet
                    exact ⟨HG6, HR6⟩
                  exact AllReady.nil
                exact AllReady.nil
              refine AllReady.cons rfl (fun K hK => ?_) ?_
              · go_simp
                refine hK _ _ ?_
                clear hK K
                try simp only [Act.put, List.setIfInBounds_toArray, List.set_cons_zero, List.set_cons_succ]
                refine wpAny_ready (rs := [2]) (by kernel_rfl) (by simp) ?_
                refine AllReady.cons rfl (fun K hK => ?_) ?_
                · go_simp
                  (with_reducible refine Calls.thrown (C2.out va _ (HV.out.below (HR.out.below (below_drew (Below.refl _ _))).bel) HVA.out.1 HVA.out.2) ?_ ?_)
                  · intro cc w5 hcc hb
                    have hr := HR.out.below (Below.trans (below_drew (Below.refl _ _)) hb)
                    exact read_thrown hcc hr.b4 hr.b5 hr.bel rfl rfl (readP_no hcc)
                  intro q w5 hg hb
                  obtain ⟨B, d, hvq⟩ := hg
                  have HR5 := Aside0.mk (HR.out.below (Below.trans (below_drew (Below.refl _ _)) hb))
                  have HM5 := Aside0.mk (blk_below HMC.out (Below.trans (below_drew (Below.refl _ _)) hb))
                  have HD5 := Aside0.mk (HSD.out.below (Below.trans (below_drew (Below.refl _ _)) hb))
                  have HQ5 := Aside0.mk hvq
                  have k1 := HR5.out.cells.1
                  clear hb hvq
                  refine hK _ _ ?_
                  clear hK K
                  try simp only [Act.put, List.setIfInBounds_toArray, List.set_cons_zero, List.set_cons_succ]
                  refine wpAny_ready (rs := [4]) (by kernel_rfl) (by simp) ?_
                  refine AllReady.cons rfl (fun K hK => ?_) ?_
                  · go_simp
                    (with_reducible refine Calls.unit (var_any _ m q B d (l.drop va.toNat) f G v fn HQ5.out HM5.out HU.out.1 HU.out.2 (fun z hz => HBy.out z (List.mem_of_mem_drop hz))) ?_ ?_)
                    · intro cc w6 hcc hb
                      have hr := HR5.out.step hb HML.out
                      exact read_thrown hcc hr.b4 hr.b5 hr.bel rfl rfl (readP_no hcc)
                    intro w6 hg hb
                    obtain ⟨hkp, base, sv, Ss, o1, o2, o3, o4⟩ := hg
                    have HR6 := Aside0.mk (HR5.out.step hb HML.out)
                    have HG6 : Aside0 (MapOk m G w6) := ⟨⟨f, v, fn, sv, base, Ss, HD5.out.keep (Nat.le_refl _) HM5.out (by decide) (map_u8b HU.out.1 HU.out.2 (by simp)) hkp, o1, o3, o2, o4⟩⟩
                    clear hb hkp o1 o2 o3 o4
                    refine hK _ _ ?_
                    clear hK K
                    try simp only [Act.put, List.setIfInBounds_toArray, List.set_cons_zero, List.set_cons_succ]
                    refine wpAny_done (by kernel_rfl) ?_ _
                    go_wp2_with fail
                    go_meet
                    exact ⟨HG6, HR6⟩
                  exact AllReady.nil
                exact AllReady.nil
              exact AllReady.nil
            refine AllReady.cons rfl (fun K hK => ?_) ?_
            · go_simp
              refine hK _ _ ?_
              clear hK K
              try simp only [Act.put, List.setIfInBounds_toArray, List.set_cons_zero, List.set_cons_succ]
              refine wpAny_ready (rs := [1]) (by kernel_rfl) (by simp) ?_
              refine AllReady.cons rfl (fun K hK => ?_) ?_
              · go_simp
                refine hK _ _ ?_
                clear hK K
                try simp only [Act.put, List.setIfInBounds_toArray, List.set_cons_zero, List.set_cons_succ]
                refine wpAny_ready (rs := [2]) (by kernel_rfl) (by simp) ?_
                refine AllReady.cons rfl (fun K hK => ?_) ?_
                · go_simp
                  (with_reducible refine Calls.thrown (C2.out va _ (HV.out.below (HR.out.below (below_drew (Below.refl _ _))).bel) HVA.out.1 HVA.out.2) ?_ ?_)
                  · intro cc w5 hcc hb
                    have hr := HR.out.below (Below.trans (below_drew (Below.refl _ _)) hb)
                    exact read_thrown hcc hr.b4 hr.b5 hr.bel rfl rfl (readP_no hcc)
                  intro q w5 hg hb
                  obtain ⟨B, d, hvq⟩ := hg
                  have HR5 := Aside0.mk (HR.out.below (Below.trans (below_drew (Below.refl _ _)) hb))
                  have HM5 := Aside0.mk (blk_below HMC.out (Below.trans (below_drew (Below.refl _ _)) hb))
                  have HD5 := Aside0.mk (HSD.out.below (Below.trans (below_drew (Below.refl _ _)) hb))
                  have HQ5 := Aside0.mk hvq
                  have k1 := HR5.out.cells.1
                  clear hb hvq
                  refine hK _ _ ?_
                  clear hK K
                  try simp only [Act.put, List.setIfInBounds_toArray, List.set_cons_zero, List.set_cons_succ]
                  refine wpAny_ready (rs := [4]) (by kernel_rfl) (by simp) ?_
                  refine AllReady.cons rfl (fun K hK => ?_) ?_
                  · go_simp
                    (with_reducible refine Calls.unit (var_any _ m q B d (l.drop va.toNat) f G v fn HQ5.out HM5.out HU.out.1 HU.out.2 (fun z hz => HBy.out z (List.mem_of_mem_drop hz))) ?_ ?_)
                    · intro cc w6 hcc hb
                      have hr := HR5.out.step hb HML.out
                      exact read_thrown hcc hr.b4 hr.b5 hr.bel rfl rfl (readP_no hcc)
                    intro w6 hg hb
                    obtain ⟨hkp, base, sv, Ss, o1, o2, o3, o4⟩ := hg
                    have HR6 := Aside0.mk (HR5.out.step hb HML.out)
                    have HG6 : Aside0 (MapOk m G w6) := ⟨⟨f, v, fn, sv, base, Ss, HD5.out.keep (Nat.le_refl _) HM5.out (by decide) (map_u8b HU.out.1 HU.out.2 (by simp)) hkp, o1, o3, o2, o4⟩⟩
                    clear hb hkp o1 o2 o3 o4
                    refine hK _ _ ?_
                    clear hK K
                    try simp only [Act.put, List.setIfInBounds_toArray, List.set_cons_zero, List.set_cons_succ]
                    refine wpAny_done (by kernel_rfl) ?_ _
                    go_wp2_with fail
                    go_meet
                    exact ⟨HG6, HR6⟩
                  exact AllReady.nil
                exact AllReady.nil
              exact AllReady.nil
            exact AllReady.nil
          refine AllReady.cons rfl (fun K hK => ?_) ?_
          · go_simp
            refine hK _ _ ?_
            clear hK K
            try simp only [Act.put, List.setIfInBounds_toArray, List.set_cons_zero, List.set_cons_succ]
            refine wpAny_ready (rs := [0, 3]) (by kernel_rfl) (by simp) ?_
            refine AllReady.cons rfl (fun K hK => ?_) ?_
            · go_simp
              refine hK _ _ ?_
              clear hK K
              try simp only [Act.put, List.setIfInBounds_toArray, List.set_cons_zero, List.set_cons_succ]
              refine wpAny_ready (rs := [2, 3]) (by kernel_rfl) (by simp) ?_
              refine AllReady.cons rfl (fun K hK => ?_) ?_
              · go_simp
                (with_reducible refine Calls.thrown (C2.out va _ (HV.out.below (HR.out.below (below_drew (Below.refl _ _))).bel) HVA.out.1 HVA.out.2) ?_ ?_)
                · intro cc w5 hcc hb
                  have hr := HR.out.below (Below.trans (below_drew (Below.refl _ _)) hb)
                  exact read_thrown hcc hr.b4 hr.b5 hr.bel rfl rfl (readP_no hcc)
                intro q w5 hg hb
                obtain ⟨B, d, hvq⟩ := hg
                have HR5 := Aside0.mk (HR.out.below (Below.trans (below_drew (Below.refl _ _)) hb))
                have HM5 := Aside0.mk (blk_below HMC.out (Below.trans (below_drew (Below.refl _ _)) hb))
                have HD5 := Aside0.mk (HSD.out.below (Below.trans (below_drew (Below.refl _ _)) hb))
                have HQ5 := Aside0.mk hvq
                have k1 := HR5.out.cells.1
                clear hb hvq
                refine hK _ _ ?_
                clear hK K
                try simp only [Act.put, List.setIfInBounds_toArray, List.set_cons_zero, List.set_cons_succ]
                refine wpAny_ready (rs := [3]) (by kernel_rfl) (by simp) ?_
                refine AllReady.cons rfl (fun K hK => ?_) ?_
                · go_simp
                  refine hK _ _ ?_
                  clear hK K
                  try simp only [Act.put, List.setIfInBounds_toArray, List.set_cons_zero, List.set_cons_succ]
                  refine wpAny_ready (rs := [4]) (by kernel_rfl) (by simp) ?_
                  refine AllReady.cons rfl (fun K hK => ?_) ?_
                  · go_simp
                    (with_reducible refine Calls.unit (var_any _ m q B d (l.drop va.toNat) f G v fn HQ5.out HM5.out HU.out.1 HU.out.2 (fun z hz => HBy.out z (List.mem_of_mem_drop hz))) ?_ ?_)
                    · intro cc w6 hcc hb
                      have hr := HR5.out.step hb HML.out
                      exact read_thrown hcc hr.b4 hr.b5 hr.bel rfl rfl (readP_no hcc)
                    intro w6 hg hb
                    obtain ⟨hkp, base, sv, Ss, o1, o2, o3, o4⟩ := hg
                    have HR6 := Aside0.mk (HR5.out.step hb HML.out)
                    have HG6 : Aside0 (MapOk m G w6) := ⟨⟨f, v, fn, sv, base, Ss, HD5.out.keep (Nat.le_refl _) HM5.out (by decide) (map_u8b HU.out.1 HU.out.2 (by simp)) hkp, o1, o3, o2, o4⟩⟩
                    clear hb hkp o1 o2 o3 o4
                    refine hK _ _ ?_
                    clear hK K
                    try simp only [Act.put, List.setIfInBounds_toArray, List.set_cons_zero, List.set_cons_succ]
                    refine wpAny_done (by kernel_rfl) ?_ _
                    go_wp2_with fail
                    go_meet
                    exact ⟨HG6, HR6⟩
                  exact AllReady.nil
                exact AllReady.nil
              refine AllReady.cons rfl (fun K hK => ?_) ?_
              · go_simp
                refine hK _ _ ?_
                clear hK K
                try simp only [Act.put, List.setIfInBounds_toArray, List.set_cons_zero, List.set_cons_succ]
                refine wpAny_ready (rs := [2]) (by kernel_rfl) (by simp) ?_
                refine AllReady.cons rfl (fun K hK => ?_) ?_
                · go_simp
                  (with_reducible refine Calls.thrown (C2.out va _ (HV.out.below (HR.out.below (below_drew (Below.refl _ _))).bel) HVA.out.1 HVA.out.2) ?_ ?_)
                  · intro cc w5 hcc hb
                    have hr := HR.out.below (Below.trans (below_drew (Below.refl _ _)) hb)
                    exact read_thrown hcc hr.b4 hr.b5 hr.bel rfl rfl (readP_no hcc)
                  intro q w5 hg hb
                  obtain ⟨B, d, hvq⟩ := hg
                  have HR5 := Aside0.mk (HR.out.below (Below.trans (below_drew (Below.refl _ _)) hb))
                  have HM5 := Aside0.mk (blk_below HMC.out (Below.trans (below_drew (Below.refl _ _)) hb))
                  have HD5 := Aside0.mk (HSD.out.below (Below.trans (below_drew (Below.refl _ _)) hb))
                  have HQ5 := Aside0.mk hvq
                  have k1 := HR5.out.cells.1
                  clear hb hvq
                  refine hK _ _ ?_
                  clear hK K
                  try simp only [Act.put, List.setIfInBounds_toArray, List.set_cons_zero, List.set_cons_succ]
                  refine wpAny_ready (rs := [4]) (by kernel_rfl) (by simp) ?_
                  refine AllReady.cons rfl (fun K hK => ?_) ?_
                  · go_simp
                    (with_reducible refine Calls.unit (var_any _ m q B d (l.drop va.toNat) f G v fn HQ5.out HM5.out HU.out.1 HU.out.2 (fun z hz => HBy.out z (List.mem_of_mem_drop hz))) ?_ ?_)
                    · intro cc w6 hcc hb
                      have hr := HR5.out.step hb HML.out
                      exact read_thrown hcc hr.b4 hr.b5 hr.bel rfl rfl (readP_no hcc)
                    intro w6 hg hb
                    obtain ⟨hkp, base, sv, Ss, o1, o2, o3, o4⟩ := hg
                    have HR6 := Aside0.mk (HR5.out.step hb HML.out)
                    have HG6 : Aside0 (MapOk m G w6) := ⟨⟨f, v, fn, sv, base, Ss, HD5.out.keep (Nat.le_refl _) HM5.out (by decide) (map_u8b HU.out.1 HU.out.2 (by simp)) hkp, o1, o3, o2, o4⟩⟩
                    clear hb hkp o1 o2 o3 o4
                    refine hK _ _ ?_
                    clear hK K
                    try simp only [Act.put, List.setIfInBounds_toArray, List.set_cons_zero, List.set_cons_succ]
                    refine wpAny_done (by kernel_rfl) ?_ _
                    go_wp2_with fail
                    go_meet
                    exact ⟨HG6, HR6⟩
                  exact AllReady.nil
                exact AllReady.nil
              exact AllReady.nil
            refine AllReady.cons rfl (fun K hK => ?_) ?_
            · go_simp
              refine hK _ _ ?_
              clear hK K
              try simp only [Act.put, List.setIfInBounds_toArray, List.set_cons_zero, List.set_cons_succ]
              refine wpAny_ready (rs := [0]) (by kernel_rfl) (by simp) ?_
              refine AllReady.cons rfl (fun K hK => ?_) ?_
              · go_simp
                refine hK _ _ ?_
                clear hK K
                try simp only [Act.put, List.setIfInBounds_toArray, List.set_cons_zero, List.set_cons_succ]
                refine wpAny_ready (rs := [2]) (by kernel_rfl) (by simp) ?_
                refine AllReady.cons rfl (fun K hK => ?_) ?_
                · go_simp
                  (with_reducible refine Calls.thrown (C2.out va _ (HV.out.below (HR.out.below (below_drew (Below.refl _ _))).bel) HVA.out.1 HVA.out.2) ?_ ?_)
                  · intro cc w5 hcc hb
                    have hr := HR.out.below (Below.trans (below_drew (Below.refl _ _)) hb)
                    exact read_thrown hcc hr.b4 hr.b5 hr.bel rfl rfl (readP_no hcc)
                  intro q w5 hg hb
                  obtain ⟨B, d, hvq⟩ := hg
                  have HR5 := Aside0.mk (HR.out.below (Below.trans (below_drew (Below.refl _ _)) hb))
                  have HM5 := Aside0.mk (blk_below HMC.out (Below.trans (below_drew (Below.refl _ _)) hb))
                  have HD5 := Aside0.mk (HSD.out.below (Below.trans (below_drew (Below.refl _ _)) hb))
                  have HQ5 := Aside0.mk hvq
                  have k1 := HR5.out.cells.1
                  clear hb hvq
                  refine hK _ _ ?_
                  clear hK K
                  try simp only [Act.put, List.setIfInBounds_toArray, List.set_cons_zero, List.set_cons_succ]
                  refine wpAny_ready (rs := [4]) (by kernel_rfl) (by simp) ?_
                  refine AllReady.cons rfl (fun K hK => ?_) ?_
                  · go_simp
                    (with_reducible refine Calls.unit (var_any _ m q B d (l.drop va.toNat) f G v fn HQ5.out HM5.out HU.out.1 HU.out.2 (fun z hz => HBy.out z (List.mem_of_mem_drop hz))) ?_ ?_)
                    · intro cc w6 hcc hb
                      have hr := HR5.out.step hb HML.out
                      exact read_thrown hcc hr.b4 hr.b5 hr.bel rfl rfl (readP_no hcc)
                    intro w6 hg hb
                    obtain ⟨hkp, base, sv, Ss, o1, o2, o3, o4⟩ := hg
                    have HR6 := Aside0.mk (HR5.out.step hb HML.out)
                    have HG6 : Aside0 (MapOk m G w6) := ⟨⟨f, v, fn, sv, base, Ss, HD5.out.keep (Nat.le_refl _) HM5.out (by decide) (map_u8b HU.out.1 HU.out.2 (by simp)) hkp, o1, o3, o2, o4⟩⟩
                    clear hb hkp o1 o2 o3 o4
                    refine hK _ _ ?_
                    clear hK K
                    try simp only [Act.put, List.setIfInBounds_toArray, List.set_cons_zero, List.set_cons_succ]
                    refine wpAny_done (by kernel_rfl) ?_ _
                    go_wp2_with fail
                    go_meet
                    exact ⟨HG6, HR6⟩
                  exact AllReady.nil
                exact AllReady.nil
              exact AllReady.nil
            exact AllReady.nil
          refine AllReady.cons rfl (fun K hK => ?_) ?_
          · go_simp
            refine hK _ _ ?_
            clear hK K
            try simp only [Act.put, List.setIfInBounds_toArray, List.set_cons_zero, List.set_cons_succ]
            refine wpAny_ready (rs := [0, 1]) (by kernel_rfl) (by simp) ?_
            refine AllReady.cons rfl (fun K hK => ?_) ?_
            · go_simp
              refine hK _ _ ?_
              clear hK K
              try simp only [Act.put, List.setIfInBounds_toArray, List.set_cons_zero, List.set_cons_succ]
              refine wpAny_ready (rs := [1]) (by kernel_rfl) (by simp) ?_
              refine AllReady.cons rfl (fun K hK => ?_) ?_
              · go_simp
                refine hK _ _ ?_
                clear hK K
                try simp only [Act.put, List.setIfInBounds_toArray, List.set_cons_zero, List.set_cons_succ]
                refine wpAny_ready (rs := [2]) (by kernel_rfl) (by simp) ?_
                refine AllReady.cons rfl (fun K hK => ?_) ?_
                · go_simp
                  (with_reducible refine Calls.thrown (C2.out va _ (HV.out.below (HR.out.below (below_drew (Below.refl _ _))).bel) HVA.out.1 HVA.out.2) ?_ ?_)
                  · intro cc w5 hcc hb
                    have hr := HR.out.below (Below.trans (below_drew (Below.refl _ _)) hb)
                    exact read_thrown hcc hr.b4 hr.b5 hr.bel rfl rfl (readP_no hcc)
                  intro q w5 hg hb
                  obtain ⟨B, d, hvq⟩ := hg
                  have HR5 := Aside0.mk (HR.out.below (Below.trans (below_drew (Below.refl _ _)) hb))
                  have HM5 := Aside0.mk (blk_below HMC.out (Below.trans (below_drew (Below.refl _ _)) hb))
                  have HD5 := Aside0.mk (HSD.out.below (Below.trans (below_drew (Below.refl _ _)) hb))
                  have HQ5 := Aside0.mk hvq
                  have k1 := HR5.out.cells.1
                  clear hb hvq
                  refine hK _ _ ?_
                  clear hK K
                  try simp only [Act.put, List.setIfInBounds_toArray, List.set_cons_zero, List.set_cons_succ]
                  refine wpAny_ready (rs := [4]) (by kernel_rfl) (by simp) ?_
                  refine AllReady.cons rfl (fun K hK => ?_) ?_
                  · go_simp
                    (with_reducible refine Calls.unit (var_any _ m q B d (l.drop va.toNat) f G v fn HQ5.out HM5.out HU.out.1 HU.out.2 (fun z hz => HBy.out z (List.mem_of_mem_drop hz))) ?_ ?_)
                    · intro cc w6 hcc hb
                      have hr := HR5.out.step hb HML.out
                      exact read_thrown hcc hr.b4 hr.b5 hr.bel rfl rfl (readP_no hcc)
                    intro w6 hg hb
                    obtain ⟨hkp, base, sv, Ss, o1, o2, o3, o4⟩ := hg
                    have HR6 := Aside0.mk (HR5.out.step hb HML.out)
                    have HG6 : Aside0 (MapOk m G w6) := ⟨⟨f, v, fn, sv, base, Ss, HD5.out.keep (Nat.le_refl _) HM5.out (by decide) (map_u8b HU.out.1 HU.out.2 (by simp)) hkp, o1, o3, o2, o4⟩⟩
                    clear hb hkp o1 o2 o3 o4
                    refine hK _ _ ?_
                    clear hK K
                    try simp only [Act.put, List.setIfInBounds_toArray, List.set_cons_zero, List.set_cons_succ]
                    refine wpAny_done (by kernel_rfl) ?_ _
                    go_wp2_with fail
                    go_meet
                    exact ⟨HG6, HR6⟩
                  exact AllReady.nil
                exact AllReady.nil
              exact AllReady.nil
            refine AllReady.cons rfl (fun K hK => ?_) ?_
            · go_simp
              refine hK _ _ ?_
              clear hK K
              try simp only [Act.put, List.setIfInBounds_toArray, List.set_cons_zero, List.set_cons_succ]
              refine wpAny_ready (rs := [0]) (by kernel_rfl) (by simp) ?_
              refine AllReady.cons rfl (fun K hK => ?_) ?_
              · go_simp
                refine hK _ _ ?_
                clear hK K
                try simp only [Act.put, List.setIfInBounds_toArray, List.set_cons_zero, List.set_cons_succ]
                refine wpAny_ready (rs := [2]) (by kernel_rfl) (by simp) ?_
                refine AllReady.cons rfl (fun K hK => ?_) ?_
                · go_simp
                  (with_reducible refine Calls.thrown (C2.out va _ (HV.out.below (HR.out.below (below_drew (Below.refl _ _))).bel) HVA.out.1 HVA.out.2) ?_ ?_)
                  · intro cc w5 hcc hb
                    have hr := HR.out.below (Below.trans (below_drew (Below.refl _ _)) hb)
                    exact read_thrown hcc hr.b4 hr.b5 hr.bel rfl rfl (readP_no hcc)
                  intro q w5 hg hb
                  obtain ⟨B, d, hvq⟩ := hg
                  have HR5 := Aside0.mk (HR.out.below (Below.trans (below_drew (Below.refl _ _)) hb))
                  have HM5 := Aside0.mk (blk_below HMC.out (Below.trans (below_drew (Below.refl _ _)) hb))
                  have HD5 := Aside0.mk (HSD.out.below (Below.trans (below_drew (Below.refl _ _)) hb))
                  have HQ5 := Aside0.mk hvq
                  have k1 := HR5.out.cells.1
                  clear hb hvq
                  refine hK _ _ ?_
                  clear hK K
                  try simp only [Act.put, List.setIfInBounds_toArray, List.set_cons_zero, List.set_cons_succ]
                  refine wpAny_ready (rs := [4]) (by kernel_rfl) (by simp) ?_
                  refine AllReady.cons rfl (fun K hK => ?_) ?_
                  · go_simp
                    (with_reducible refine Calls.unit (var_any _ m q B d (l.drop va.toNat) f G v fn HQ5.out HM5.out HU.out.1 HU.out.2 (fun z hz => HBy.out z (List.mem_of_mem_drop hz))) ?_ ?_)
                    · intro cc w6 hcc hb
                      have hr := HR5.out.step hb HML.out
                      exact read_thrown hcc hr.b4 hr.b5 hr.bel rfl rfl (readP_no hcc)
                    intro w6 hg hb
                    obtain ⟨hkp, base, sv, Ss, o1, o2, o3, o4⟩ := hg
                    have HR6 := Aside0.mk (HR5.out.step hb HML.out)
                    have HG6 : Aside0 (MapOk m G w6) := ⟨⟨f, v, fn, sv, base, Ss, HD5.out.keep (Nat.le_refl _) HM5.out (by decide) (map_u8b HU.out.1 HU.out.2 (by simp)) hkp, o1, o3, o2, o4⟩⟩
                    clear hb hkp o1 o2 o3 o4
                    refine hK _ _ ?_
                    clear hK K
                    try simp only [Act.put, List.setIfInBounds_toArray, List.set_cons_zero, List.set_cons_succ]
                    refine wpAny_done (by kernel_rfl) ?_ _
                    go_wp2_with fail
                    go_meet
                    exact ⟨HG6, HR6⟩
                  exact AllReady.nil
                exact AllReady.nil
              exact AllReady.nil
            exact AllReady.nil
          exact AllReady.nil
        · have hva0 : va < 0 := by have := of_decide_eq_false hd; omega
          go_wp2_with fail
          go_meet
          exact ⟨⟨⟨f, v, fn, _, 0, [], HSD.out, World.ownsRow_nil _ _ _ _, Nat.zero_le _, by simp, HMC.out⟩⟩, HR⟩
      case rest =>
        obtain ⟨HG, HR⟩ := hcut
        obtain ⟨q1, q2, q3, q4, q5⟩ := HR.out.cells
        have hr7 := (HR.out.set4 (.pointer (some ⟨m, 0, none⟩)))
        have hg7 := HG.out.keep (Nat.le_of_lt (Nat.lt_trans (Nat.lt_succ_self _) (Nat.lt_trans (Nat.lt_succ_self _) HML.out))) HR.out.b4 (by decide) (by decide) (by intro i z; rcases i with _ | i <;> simp) (KeepBut.set_ (KeepBut.refl _ _ _) 0 (.pointer (some ⟨m, 0, none⟩)))
        obtain ⟨t1, t2, t3, t4, t5⟩ := hr7.cells
        have HG8 := Aside0.mk (hg7.keep (Nat.le_of_lt (Nat.lt_trans (Nat.lt_succ_self _) HML.out)) hr7.b5 (by decide) (by decide) (by intro i z; rcases i with _ | i <;> simp) (KeepBut.set_ (KeepBut.refl _ _ _) 0 (.int .i64 0)))
        have HR8 := Aside0.mk (hr7.set5 (.int .i64 0))
        clear hr7 hg7
        go_wp2_with fail
        refine leaves_cons (f := 53) (args := #[.pointer (some ⟨w.heap.size, 0, none⟩), .pointer (some ⟨w.heap.size + 1, 0, none⟩)]) (by simp) (by simp [go_sem]) ?_
        refine (catch_idle _ _ _).mono ?_
        rintro e u' w'' ⟨rfl, rfl, rfl⟩
        obtain ⟨s1, s2, s3, s4, s5⟩ := HR8.out.cells
        generalize ((wc.setCell ⟨w.heap.size, 0, none⟩ (.pointer (some ⟨m, 0, none⟩))).setCell ⟨w.heap.size + 1, 0, none⟩ (.int .i64 0)) = wf at *
        simp [Leaves, settle, results, Try.results41, go_sem, s1, s3]
        exact ⟨.inl ⟨m, rfl, HG8.out, hG⟩, HR8.out.bel⟩
  · have d1 : decide (1 ≤ G) = false := decide_eq_false hG
    go_enter_defers Try.func41, Try.ntmps41
    go_wp2_with (go_at_call 54; refine Calls.must ?_ ?_; (exact read_thrown (by decide) (two_cells w).1 (two_cells w).2.1 (two_cells w).2.2 rfl rfl (readP_no (by decide))); intro hm1; exact absurd hm1 (by decide))
end Go.Proofs.Ytebmfbfmdbimdaa.F
