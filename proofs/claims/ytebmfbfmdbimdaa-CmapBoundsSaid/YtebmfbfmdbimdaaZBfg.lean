/- Package cmap, whatever the bytes: a subtable (CmapBounds). Package cmap, whatever the bytes: the selectors (CmapBounds). -/
import Derived.Test.YtebmfbfmdbimdaaZCmapBe
import Derived.Test.YtebmfbfmdbimdaaZB456
namespace Go.Proofs.Ytebmfbfmdbimdaa.F
open Go.RowKit Go.Proofs.YtebmfbfmdbimdaaW.PrintWords Go.Proofs.YtebmfbfmdbimdaaW.PrintLast Go.Proofs.YtebmfbfmdbimdaaW.PrintMore
set_option linter.unusedVariables false
set_option linter.unusedSimpArgs false
/-- A call that throws, in a walk: its way is closed; a way that is none goes on. -/
theorem Calls.dead {P : Program} {f : FuncId} {args : Array Value} {w : World} {R : Ending → World → Prop} {c : Int} (v : Value) (h : Calls P f args w fun e w' => e = PK c ∧ Below w.heap.size w w')
    (hpan : ∀ w', Below w.heap.size w w' → R (PK c) w') (hret : ∀ w', False → R (.returned v) w') : Calls P f args w R :=
  h.mono fun e w' ⟨he, hb⟩ => by subst he; exact hpan _ hb
set_option maxRecDepth 100000 in
set_option maxHeartbeats 4000000 in
theorem subt_short (w : World) (m p : Nat) (A : Option Addr) (c : Nat) (l : List Int) (G : Int) (hv : View w p A c l) (hm0 : w.heap[m]? = some (.cells #[.int .i64 0, .int .i64 G, .slice none 0 0, .nilFunc, .slice none 0 0] 93 (0, 0))) (hb : ∀ z ∈ l, 0 ≤ z ∧ z ≤ 255) (hl : l.length < 140737488355328)
    (h0 : ¬ partOk l 0 2) :
    Calls Try.prog 57 #[.agg #[.pointer (some ⟨p, 0, none⟩)], .pointer (some ⟨m, 0, none⟩)] w fun e w' => ((e = .returned (.tuple #[]) ∧ SubOk m p A c l G w') ∨ Thr e) ∧ Below m w w' := by
  have C0 := Aside0.mk (fun W (hv : View W p A c l) => cu16_no p A c l 0 W hv hb h0)
  have HV := Aside0.mk hv
  have HM := Aside0.mk hm0
  have HBy := Aside0.mk hb
  have HLL := Aside0.mk hl
  have hmf : ∀ (fn : Fn) (first cap : Array Value) (w : World), (Instr.makeFunc fn first cap).run Try.prog w = .ok (.func fn first cap) w := fun _ _ _ _ => rfl
  clear hv hm0 hb hl h0
  go_enter Try.func57, Try.ntmps57
  go_upto_region 1 with fail
  have hs : Sb w w.heap.size (w.heap.size + 1) m p A c l 0 G ((w.alloc (.cells #[.pointer (some ⟨p, 0, none⟩)] 114)).alloc (.cells #[.pointer (some ⟨m, 0, none⟩)] 57)) := by
    have hq : ((w.alloc (.cells #[.pointer (some ⟨p, 0, none⟩)] 114)).alloc (.cells #[.pointer (some ⟨m, 0, none⟩)] 57)).heap[w.heap.size + 1]? = some (.cells #[.pointer (some ⟨m, 0, none⟩)] 57 (0, 0)) := by
      have := blk_new (w.alloc (.cells #[.pointer (some ⟨p, 0, none⟩)] 114)) (.cells #[.pointer (some ⟨m, 0, none⟩)] 57)
      rwa [show (w.alloc (.cells #[.pointer (some ⟨p, 0, none⟩)] 114)).heap.size = w.heap.size + 1 from by simp] at this
    have hbw := below_alloc (below_alloc (Below.refl w.heap.size w) (.cells #[.pointer (some ⟨p, 0, none⟩)] 114)) (.cells #[.pointer (some ⟨m, 0, none⟩)] 57)
    exact ⟨blk_alloc (blk_new _ _) _, hq, blk_below HM.out hbw, HV.out.below hbw, hbw.mono (Nat.le_of_lt (blk_lt HM.out))⟩
  have hgs : w.heap.size ≤ w.heap.size ∧ w.heap.size ≤ w.heap.size + 1 := ⟨Nat.le_refl _, Nat.le_succ _⟩
  obtain ⟨g, hg⟩ : ∃ g, g = w.heap.size := ⟨_, rfl⟩
  obtain ⟨h, hh⟩ : ∃ h, h = w.heap.size + 1 := ⟨_, rfl⟩
  rw [← hh, ← hg] at hs ⊢
  generalize (w.alloc (.cells #[.pointer (some ⟨p, 0, none⟩)] 114)).alloc (.cells #[.pointer (some ⟨m, 0, none⟩)] 57) = w1 at *
  have HS := Aside0.mk hs
  have HGH : Aside0 (m < g ∧ m < h) := ⟨by have := blk_lt HM.out; omega⟩
  clear hs hgs hg hh HV HM
  go_cut [] from 10 to 14 (fun wx => Aside0 False)
  case first =>
    have hcg := (blk_cell HS.out.blk 0).trans rfl
    have hch := (blk_cell HS.out.ptr 0).trans rfl
    go_region_with (first | (go_at_call 61; ((with_reducible refine Calls.dead (.int .i64 0) (C0.out _ (HS.out.below (below_drew (Below.refl _ _))).view) ?_ ?_); (intro w5 hb; exact ⟨rfl, .inr ⟨51, by decide, rfl⟩, (HS.out.below (Below.trans (below_drew (Below.refl _ _)) hb)).keep⟩); intro w5 hF; have hch5 : w5.cell? ⟨h, 0, none⟩ = some (.pointer (some ⟨m, 0, none⟩)) := hF.elim; have hcm5 : w5.cell? ⟨m, 0, none⟩ = some (.int .i64 0) := hF.elim; have hfm5 : w5.frozen? ⟨m, 0, none⟩ = false := hF.elim; have HFF := Aside0.mk hF; clear hF)))
    all_goals
      go_wp2_with fail
      go_meet
      exact HFF
  case rest => exact hcut.out.elim
theorem subt_any (w : World) (m p : Nat) (A : Option Addr) (c : Nat) (l : List Int) (G : Int) (hv : View w p A c l) (hm0 : w.heap[m]? = some (.cells #[.int .i64 0, .int .i64 G, .slice none 0 0, .nilFunc, .slice none 0 0] 93 (0, 0))) (hb : ∀ z ∈ l, 0 ≤ z ∧ z ≤ 255) (hl : l.length < 140737488355328) :
    Calls Try.prog 57 #[.agg #[.pointer (some ⟨p, 0, none⟩)], .pointer (some ⟨m, 0, none⟩)] w fun e w' => ((e = .returned (.tuple #[]) ∧ SubOk m p A c l G w') ∨ Thr e) ∧ Below m w w' := by
  by_cases h0 : partOk l 0 2
  · by_cases e0 : num l 0 2 = 0
    · by_cases hp : partOk l 6 256
      · exact subt_0 w m p A c l G hv hm0 hb hl h0 e0 hp
      · exact subt_0n w m p A c l G hv hm0 hb hl h0 e0 hp
    · by_cases e4 : num l 0 2 = 4
      · exact subt_4 w m p A c l G hv hm0 hb hl h0 e4
      · by_cases e6 : num l 0 2 = 6
        · exact subt_6 w m p A c l G hv hm0 hb hl h0 e6
        · by_cases e12 : num l 0 2 = 12 ∨ num l 0 2 = 13
          · exact subt_12 w m p A c l G hv hm0 hb hl h0 _ rfl e12
          · exact subt_no w m p A c l G hv hm0 hb hl h0 _ rfl ⟨e0, e4, e6, fun h => e12 (.inl h), fun h => e12 (.inr h)⟩
  · exact subt_short w m p A c l G hv hm0 hb hl h0
end Go.Proofs.Ytebmfbfmdbimdaa.F
namespace Go.Proofs.Ytebmfbfmdbimdaa.F
open Go.RowKit Go.Proofs.YtebmfbfmdbimdaaW.PrintWords Go.Proofs.YtebmfbfmdbimdaaW.PrintLast Go.Proofs.YtebmfbfmdbimdaaW.PrintMore
set_option linter.unusedVariables false
set_option linter.unusedSimpArgs false
/-- v is a row of groups that rise. -/
def RowG (W : World) (v : Value) : Prop := ∃ (base : Nat) (L : List (List Int)) (t : Int), W.ownsRow base 95 4 v L.length (L.flatten.map (Value.int .i64)) ∧ Gl L t ∧ L.length ≤ 65536
section
variable {W W' : World} {v : Value}
theorem RowG.nil (W : World) : RowG W (.slice none 0 0) := ⟨0, [], -1, World.ownsRow_nil _ _ _ _, ⟨fun z hz => by simp at hz, fun a b _ hb => by simp at hb, fun a ha => by simp at ha⟩, by decide⟩
theorem RowG.below (h : RowG W v) (hb : Below W.heap.size W W') : RowG W' v := by
  obtain ⟨base, L, t, ho, hG, hl⟩ := h
  exact ⟨base, L, t, pw_own_below ho hb, hG, hl⟩
theorem RowG.set (h : RowG W v) {b : Nat} {cs : Array Value} {t : TypeId} (hb : W.heap[b]? = some (.cells cs t (0, 0))) (ht : 95 ≠ t) (i : Nat) (u : Value) : RowG (W.setCell ⟨b, i, none⟩ u) v := by
  obtain ⟨base, L, tt, ho, hG, hl⟩ := h
  exact ⟨base, L, tt, own_setCell ho (own_ne ho hb ht) _, hG, hl⟩
theorem RowG.grown (h : RowG W v) {sv : Value} {base n : Nat} {e : TypeId} {q : Nat} {xs : List Value} (ho : W.ownsRow base e q sv n xs) (he : 95 ≠ e) (hg : W.grownBy W' sv.ownBlock) : RowG W' v := by
  obtain ⟨b2, L, tt, h2, hG, hl⟩ := h
  refine ⟨b2, L, tt, own_other h2 hg ?_, hG, hl⟩
  rcases ho.2 with ⟨rfl, _⟩ | ⟨g, cap, cur, rfl, _, hh, _⟩
  · cases h3 : v.ownBlock with
    | none => exact .inl rfl
    | some k => exact .inr (by simp [Value.ownBlock])
  · right
    have := own_ne h2 hh he
    intro h3
    exact this h3.symm
end
theorem keep_new {w w1 : World} {g b : Nat} {row : Option Nat} (h : KeepBut w w1 g row) (hb : w.heap.size ≤ b) (j : Nat) (u : Value) : KeepBut w (w1.setCell ⟨b, j, none⟩ u) g row :=
  ⟨by simpa [World.setCell] using h.1, fun i hi hg hr => (Below.heap_setCell w1 ⟨b, j, none⟩ u i (by simp; omega)).trans (h.2 i hi hg hr)⟩
theorem View.keepBut {w w' : World} {p m : Nat} {A : Option Addr} {c : Nat} {l : List Int} {f G : Int} {v u y : Value} (h : View w p A c l) (hb : w.heap[m]? = some (.cells #[.int .i64 f, .int .i64 G, v, u, y] 93 (0, 0))) (hv : ∀ z, v ≠ .int .u8 z) (hu : ∀ z, u ≠ .int .u8 z) (hy : ∀ z, y ≠ .int .u8 z) (k : KeepBut w w' m none) : View w' p A c l := by
  refine ⟨k.blk h.blk (blk_ne h.blk hb (by decide)) (by simp), ?_, h.cap⟩
  refine Kd.C_foot_ne (g := m) (fun h => h) h.row (fun ad he hn hg => ?_) _ k
  obtain ⟨ad', e, hx⟩ := Kd.at_int h.row (0 : Int) (by omega) (by omega)
  have hbl : (ad'.add ((0 : Int).toNat)).block = m := by
    rw [he] at e
    injection e with e
    rw [← e, ← hg]
    exact add_block _ _
  unfold World.cell? at hx
  rw [hbl, hb] at hx
  simp only at hx
  split at hx
  · cases hx
  · exact map_u8b hv hu hy _ _ hx
/-- A selector's cells. -/
def selC (s : Int × Value × Value) : List Value := [.int .i64 s.1, s.2.1, s.2.2]
/-- What variants finds and keeps: its reader, its total, the map with the selectors that it has. -/
structure Vq (w : World) (g bt m p : Nat) (A : Option Addr) (c : Nat) (l : List Int) (f G : Int) (v fn sv : Value) (Ss : List (Int × Value × Value)) (wr : World) : Prop where
  blk : wr.heap[g]? = some (.cells #[.pointer (some ⟨p, 0, none⟩)] 114 (0, 0))
  tot : ∃ tt : Int, 0 ≤ tt ∧ tt ≤ 4096 ∧ wr.heap[bt]? = some (.cells #[.int .i64 tt] 3 (0, 0))
  view : View wr p A c l
  map : wr.heap[m]? = some (.cells #[.int .i64 f, .int .i64 G, v, fn, sv] 93 (0, 0))
  row : wr.ownsRow w.heap.size 99 3 sv Ss.length (Ss.flatMap selC)
  sels : ∀ s ∈ Ss, RowG wr s.2.1 ∧ RowG wr s.2.2
  kp : KeepBut w wr m none
  bel : Below m w wr
  lo : m < w.heap.size ∧ w.heap.size ≤ bt
section
variable {w wr wy : World} {g bt m p b : Nat} {A : Option Addr} {c : Nat} {l : List Int} {f G : Int} {v fn sv : Value} {Ss : List (Int × Value × Value)}
theorem Vq.below (q : Vq w g bt m p A c l f G v fn sv Ss wr) (hb : Below wr.heap.size wr wy) : Vq w g bt m p A c l f G v fn sv Ss wy := by
  obtain ⟨tt, h0, h1, h2⟩ := q.tot
  exact ⟨blk_below q.blk hb, ⟨tt, h0, h1, blk_below h2 hb⟩, q.view.below hb, blk_below q.map hb, pw_own_below q.row hb, fun s hs => ⟨(q.sels s hs).1.below hb, (q.sels s hs).2.below hb⟩, q.kp.trans (KeepBut.of_below hb m none) (.inl rfl), below_then q.bel (Nat.le_of_lt (blk_lt q.map)) hb, q.lo⟩
theorem Vq.cell (q : Vq w g bt m p A c l f G v fn sv Ss wr) : wr.cell? ⟨g, 0, none⟩ = some (.pointer (some ⟨p, 0, none⟩)) := (blk_cell q.blk 0).trans rfl
theorem Vq.setTot (q : Vq w g bt m p A c l f G v fn sv Ss wr) {y : Int} (hy : 0 ≤ y ∧ y ≤ 4096) : Vq w g bt m p A c l f G v fn sv Ss (wr.setCell ⟨bt, 0, none⟩ (.int .i64 y)) := by
  obtain ⟨tt, h0, h1, h2⟩ := q.tot
  exact ⟨blk_far q.blk (blk_ne q.blk h2 (by decide)) _, ⟨y, hy.1, hy.2, blk_set h2 0 _⟩, q.view.set h2 (blk_ne q.view.blk h2 (by decide)) (by intro i z; rcases i with _ | i <;> simp) 0 _, blk_far q.map (blk_ne q.map h2 (by decide)) _, own_setCell q.row (own_ne q.row h2 (by decide)) _, fun s hs => ⟨(q.sels s hs).1.set h2 (by decide) 0 _, (q.sels s hs).2.set h2 (by decide) 0 _⟩, keep_new q.kp q.lo.2 0 _, q.bel.setCell (Nat.le_of_lt (Nat.lt_of_lt_of_le q.lo.1 q.lo.2)) _, q.lo⟩
theorem Vq.setSel (q : Vq w g bt m p A c l f G v fn sv Ss wr) {x1 x2 x3 : Value} (hb : wr.heap[b]? = some (.cells #[x1, x2, x3] 99 (0, 0))) (h1 : ∀ z, x1 ≠ .int .u8 z) (h2 : ∀ z, x2 ≠ .int .u8 z) (h3 : ∀ z, x3 ≠ .int .u8 z) (hw : w.heap.size ≤ b) (hne : some b ≠ sv.ownBlock) (i : Nat) (u : Value) : Vq w g bt m p A c l f G v fn sv Ss (wr.setCell ⟨b, i, none⟩ u) := by
  obtain ⟨tt, h0, h1', h2'⟩ := q.tot
  refine ⟨blk_far q.blk (blk_ne q.blk hb (by decide)) _, ⟨tt, h0, h1', blk_far h2' (blk_ne h2' hb (by decide)) _⟩, q.view.set hb (blk_ne q.view.blk hb (by decide)) ?_ i _, blk_far q.map (blk_ne q.map hb (by decide)) _, own_setCell q.row hne _, fun s hs => ⟨(q.sels s hs).1.set hb (by decide) i _, (q.sels s hs).2.set hb (by decide) i _⟩, keep_new q.kp hw i _, q.bel.setCell (Nat.le_of_lt (Nat.lt_of_lt_of_le q.lo.1 hw)) _, q.lo⟩
  intro j z
  obtain h | h | h | h : j = 0 ∨ j = 1 ∨ j = 2 ∨ 3 ≤ j := by omega
  all_goals first | (subst h; simp [h1, h2, h3]) | (rw [Array.getElem?_eq_none (by simpa using h)]; simp)
/-- A selector is appended. -/
theorem Vq.push (q : Vq w g bt m p A c l f G v fn sv Ss wr) {w1 : World} {v1 : Value} {s : Int × Value × Value} (hv : View w p A c l) (hm : w.heap[m]? = some (.cells #[.int .i64 f, .int .i64 G, v, fn, .slice none 0 0] 93 (0, 0))) (hvv : ∀ z, v ≠ .int .u8 z) (hfn : ∀ z, fn ≠ .int .u8 z)
    (h1 : RowG wr s.2.1) (h2 : RowG wr s.2.2) (ho : w1.ownsRow w.heap.size 99 3 v1 (Ss.length + 1) (Ss.flatMap selC ++ selC s)) (hg : wr.grownBy w1 sv.ownBlock) : Vq w g bt m p A c l f G v fn v1 (Ss ++ [s]) (w1.setCell ⟨m, 4, none⟩ v1) := by
  obtain ⟨tt, t0, t1, t2⟩ := q.tot
  have hrow : ∀ {k : Nat} {cs : Array Value} {t : TypeId}, wr.heap[k]? = some (.cells cs t (0, 0)) → 99 ≠ t → w1.heap[k]? = some (.cells cs t (0, 0)) := fun {k cs t} h ht => (hg.block k (blk_lt h) (own_ne q.row h ht)).trans h
  have hm1 := hrow q.map (by decide)
  have hkp1 : KeepBut w w1 m none := by
    refine q.kp.trans (KeepBut.of_grown hg m) ?_
    rcases own_base' q.row with h | ⟨b, h, hb⟩
    · exact .inl h
    · exact .inr ⟨b, h, hb⟩
  have hkp2 : KeepBut w (w1.setCell ⟨m, 4, none⟩ v1) m none := KeepBut.set_ hkp1 4 v1
  have hbel : Below m w w1 := q.bel.grown hg (Nat.le_of_lt (blk_lt q.map)) (fun k hk => by have := own_base q.row k hk; have := q.lo.1; omega)
  refine ⟨blk_far (hrow q.blk (by decide)) (blk_ne q.blk q.map (by decide)) _, ⟨tt, t0, t1, blk_far (hrow t2 (by decide)) (blk_ne t2 q.map (by decide)) _⟩, hv.keepBut hm hvv hfn (by simp) hkp2, blk_set hm1 4 _, ?_, ?_, hkp2, hbel.setCell (Nat.le_refl _) _, q.lo⟩
  · have e1 : (Ss ++ [s]).length = Ss.length + 1 := by simp
    have e2 : (Ss ++ [s]).flatMap selC = Ss.flatMap selC ++ selC s := by simp
    rw [e1, e2]
    exact own_setCell ho (own_ne ho hm1 (by decide)) _
  · intro y hy
    have step : ∀ x, RowG wr x → RowG (w1.setCell ⟨m, 4, none⟩ v1) x := fun x hx => (hx.grown q.row (by decide) hg).set hm1 (by decide) 4 _
    rcases List.mem_append.1 hy with hy | hy
    · exact ⟨step _ (q.sels y hy).1, step _ (q.sels y hy).2⟩
    · obtain rfl : y = s := by simpa using hy
      exact ⟨step _ h1, step _ h2⟩
end
end Go.Proofs.Ytebmfbfmdbimdaa.F
