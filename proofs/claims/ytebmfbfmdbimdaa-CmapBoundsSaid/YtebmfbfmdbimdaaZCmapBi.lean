/- Package cmap, whatever the bytes: what Read leaves, and its way out behind a panic (CmapBounds). -/
import Derived.Test.YtebmfbfmdbimdaaZCmapBh
import Derived.Test.YtebmfbfmdbimdaaZC7
namespace Go.Proofs.Ytebmfbfmdbimdaa.F
open Go.RowKit Go.Proofs.YtebmfbfmdbimdaaW.PrintWords Go.Proofs.YtebmfbfmdbimdaaW.PrintLast Go.Proofs.YtebmfbfmdbimdaaW.PrintMore
set_option linter.unusedVariables false
set_option linter.unusedSimpArgs false
section
variable {W W' : World} {g m : Nat} {cs : Array Value} {t : TypeId}
theorem RowG.keep {v : Value} (h : RowG W v) (hb : W.heap[g]? = some (.cells cs t (0, 0))) (ht : 95 ≠ t) (k : KeepBut W W' g none) : RowG W' v := by
  obtain ⟨base, L, tt, ho, hG, hl⟩ := h
  exact ⟨base, L, tt, k.own ho (fun h => own_ne ho hb ht h.symm) (by cases v.ownBlock <;> simp), hG, hl⟩
theorem View.keep {p : Nat} {A : Option Addr} {c : Nat} {l : List Int} (h : View W p A c l) (hb : W.heap[g]? = some (.cells cs t (0, 0))) (ht : 111 ≠ t) (hcs : ∀ (i : Nat) (z : Int), cs[i]? ≠ some (.int .u8 z)) (k : KeepBut W W' g none) : View W' p A c l := by
  refine ⟨k.blk h.blk (blk_ne h.blk hb ht) (by simp), ?_, h.cap⟩
  refine Kd.C_foot_ne (g := g) (fun h => h) h.row (fun ad he hn hg => ?_) _ k
  obtain ⟨ad', e, hx⟩ := Kd.at_int h.row (0 : Int) (by omega) (by omega)
  have hbl : (ad'.add ((0 : Int).toNat)).block = g := by
    rw [he] at e
    injection e with e
    rw [← e, ← hg]
    exact add_block _ _
  unfold World.cell? at hx
  rw [hbl, hb] at hx
  simp only at hx
  split at hx
  · cases hx
  · exact hcs _ _ hx
theorem Seg.keep {be bn bs bo br bd p : Nat} {A : Option Addr} {c : Nat} {l E S O D : List Int} (s : Seg W m be bn bs bo br bd p A c l E S O D) (hgm : g ≤ m) (hb : W.heap[g]? = some (.cells cs t (0, 0))) (ht : 111 ≠ t ∧ 114 ≠ t ∧ 3 ≠ t ∧ 47 ≠ t) (hcs : ∀ (i : Nat) (z : Int), cs[i]? ≠ some (.int .u8 z)) (k : KeepBut W W' g none) : Seg W' m be bn bs bo br bd p A c l E S O D := by
  obtain ⟨h1, h2, h3, ⟨A1, c1, h4, r4, q4⟩, ⟨A2, c2, h5, r5, q5⟩, ⟨A3, c3, h6, r6, q6⟩, ⟨A4, c4, h7, r7, q7⟩⟩ := s
  have far : ∀ {A1 : Option Addr} {L : List Int}, (∀ ad, A1 = some ad → m < ad.block) → Kd.C (Kd.int .i64) W A1 L.length L → Kd.C (Kd.int .i64) W' A1 L.length L := fun q r => Kd.C_foot_ne (g := g) (fun h => h) r (fun ad e _ => Nat.ne_of_gt (Nat.lt_of_le_of_lt hgm (q ad e))) _ k
  exact ⟨h1.keep hb ht.1 hcs k, k.blk h2 (blk_ne h2 hb ht.2.1) (by simp), k.blk h3 (blk_ne h3 hb ht.2.2.1) (by simp), ⟨A1, c1, k.blk h4 (blk_ne h4 hb ht.2.2.2) (by simp), far q4 r4, q4⟩, ⟨A2, c2, k.blk h5 (blk_ne h5 hb ht.2.2.2) (by simp), far q5 r5, q5⟩, ⟨A3, c3, k.blk h6 (blk_ne h6 hb ht.2.2.2) (by simp), far q6 r6, q6⟩, ⟨A4, c4, k.blk h7 (blk_ne h7 hb ht.2.2.2) (by simp), far q7 r7, q7⟩⟩
end
/-- What a map says of a code: groups, or the closure of form 4. -/
def SubD (m : Nat) (v fn : Value) (W : World) : Prop :=
  (fn = .nilFunc ∧ RowG W v) ∨ (v = .slice none 0 0 ∧ ∃ (p : Nat) (A : Option Addr) (c : Nat) (l : List Int) (be bn bs bo br bd : Nat) (E S O D : List Int), SegL l E S O D ∧ Seg W m be bn bs bo br bd p A c l E S O D ∧
      fn = .func (.func 84) #[] #[.pointer (some ⟨be, 0, none⟩), .pointer (some ⟨bn, 0, none⟩), .pointer (some ⟨bs, 0, none⟩), .pointer (some ⟨bo, 0, none⟩), .pointer (some ⟨br, 0, none⟩), .pointer (some ⟨bd, 0, none⟩)])
theorem SubD.below {m : Nat} {v fn : Value} {W W' : World} (h : SubD m v fn W) (hb : Below W.heap.size W W') : SubD m v fn W' := by
  rcases h with ⟨h1, h2⟩ | ⟨h0, p, A, c, l, be, bn, bs, bo, br, bd, E, S, O, D, h1, h2, h3⟩
  · exact .inl ⟨h1, h2.below hb⟩
  · exact .inr ⟨h0, p, A, c, l, be, bn, bs, bo, br, bd, E, S, O, D, h1, h2.below hb, h3⟩
theorem SubD.keep {m g : Nat} {cs : Array Value} {t : TypeId} {v fn : Value} {W W' : World} (h : SubD m v fn W) (hgm : g ≤ m) (hb : W.heap[g]? = some (.cells cs t (0, 0))) (ht : 95 ≠ t ∧ 111 ≠ t ∧ 114 ≠ t ∧ 3 ≠ t ∧ 47 ≠ t) (hcs : ∀ (i : Nat) (z : Int), cs[i]? ≠ some (.int .u8 z)) (k : KeepBut W W' g none) : SubD m v fn W' := by
  rcases h with ⟨h1, h2⟩ | ⟨h0, p, A, c, l, be, bn, bs, bo, br, bd, E, S, O, D, h1, h2, h3⟩
  · exact .inl ⟨h1, h2.keep hb ht.1 k⟩
  · exact .inr ⟨h0, p, A, c, l, be, bn, bs, bo, br, bd, E, S, O, D, h1, h2.keep hgm hb ht.2 hcs k, h3⟩
theorem SubOk.data {m p : Nat} {A : Option Addr} {c : Nat} {l : List Int} {G : Int} {W : World} (h : SubOk m p A c l G W) : ∃ (f : Int) (v fn : Value), SubD m v fn W ∧ (∀ z, v ≠ .int .u8 z) ∧ (∀ z, fn ≠ .int .u8 z) ∧ W.heap[m]? = some (.cells #[.int .i64 f, .int .i64 G, v, fn, .slice none 0 0] 93 (0, 0)) := by
  rcases h with ⟨f, base, v, L, t, ho, hl, hG, hm⟩ | ⟨be, bn, bs, bo, br, bd, E, S, O, D, h1, h2, h3⟩
  · have hr : RowG W v := ⟨base, L, t, ho, hG, hl⟩
    exact ⟨f, v, .nilFunc, .inl ⟨rfl, hr⟩, hr.nou8, by simp, hm⟩
  · exact ⟨4, _, _, .inr ⟨rfl, p, A, c, l, be, bn, bs, bo, br, bd, E, S, O, D, h1, h2, rfl⟩, by simp, by simp, h3⟩
/-- A map that Read hands back. -/
def MapOk (m : Nat) (G : Int) (W : World) : Prop := ∃ (f : Int) (v fn sv : Value) (base : Nat) (Ss : List (Int × Value × Value)), SubD m v fn W ∧ W.ownsRow base 99 3 sv Ss.length (Ss.flatMap selC) ∧ Ss.length ≤ 4096 ∧ (∀ s ∈ Ss, RowG W s.2.1 ∧ RowG W s.2.2) ∧
  W.heap[m]? = some (.cells #[.int .i64 f, .int .i64 G, v, fn, sv] 93 (0, 0))
theorem MapOk.below {m : Nat} {G : Int} {W W' : World} (h : MapOk m G W) (hb : Below W.heap.size W W') : MapOk m G W' := by
  obtain ⟨f, v, fn, sv, base, Ss, h1, h2, h3, h4, h5⟩ := h
  exact ⟨f, v, fn, sv, base, Ss, h1.below hb, pw_own_below h2 hb, h3, fun s hs => ⟨(h4 s hs).1.below hb, (h4 s hs).2.below hb⟩, blk_below h5 hb⟩
theorem MapOk.keep {m g : Nat} {cs : Array Value} {t : TypeId} {G : Int} {W W' : World} (h : MapOk m G W) (hgm : g ≤ m) (hb : W.heap[g]? = some (.cells cs t (0, 0))) (ht : 95 ≠ t ∧ 111 ≠ t ∧ 114 ≠ t ∧ 3 ≠ t ∧ 47 ≠ t) (ht2 : 99 ≠ t ∧ 93 ≠ t) (hcs : ∀ (i : Nat) (z : Int), cs[i]? ≠ some (.int .u8 z)) (k : KeepBut W W' g none) : MapOk m G W' := by
  obtain ⟨f, v, fn, sv, base, Ss, h1, h2, h3, h4, h5⟩ := h
  exact ⟨f, v, fn, sv, base, Ss, h1.keep hgm hb ht hcs k, k.own h2 (fun h => own_ne h2 hb ht2.1 h.symm) (by cases sv.ownBlock <;> simp), h3, fun s hs => ⟨(h4 s hs).1.keep hb ht.1 k, (h4 s hs).2.keep hb ht.1 k⟩, k.blk h5 (blk_ne h5 hb ht2.2) (by simp)⟩
/-- Read's way out behind a panic. -/
theorem read_thrown {w wx : World} {mv ev : Value} {c : Int} (hc : c ≠ 0) (b4 : wx.heap[w.heap.size]? = some (.cells #[mv] 57 (0, 0))) (b5 : wx.heap[w.heap.size + 1]? = some (.cells #[ev] 26 (0, 0))) (bel : Below w.heap.size w wx) {tmps : Array Value} {R : Ending → World → Prop} (h4 : tmps.getD 4 undef = .pointer (some ⟨w.heap.size, 0, none⟩)) (h5 : tmps.getD 5 undef = .pointer (some ⟨w.heap.size + 1, 0, none⟩))
    (hR : ∀ w', Below w.heap.size w w' → R (.returned (.tuple #[.pointer none, .int .i64 c])) w') :
    Leaves Try.prog Try.f41 tmps R [{ target := .fn (.func 53) #[.pointer (some ⟨w.heap.size, 0, none⟩), .pointer (some ⟨w.heap.size + 1, 0, none⟩)], args := #[] }] (.panicking [{ v := .iface 26 (.int .i64 c), recovered := false }]) wx := by
  refine leaves_cons (f := 53) (args := #[.pointer (some ⟨w.heap.size, 0, none⟩), .pointer (some ⟨w.heap.size + 1, 0, none⟩)]) (by simp) (by simp [go_sem]) ?_
  refine (catch_thrown w.heap.size (w.heap.size + 1) mv ev c [] wx b4 b5).mono ?_
  rintro e u' w'' ⟨rfl, rfl, w1, hw1, hb1, rfl⟩
  have k4 := blk_far (blk_set (blk_below b4 hb1) 0 (.pointer none)) (p := ⟨w.heap.size + 1, 0, none⟩) (by simp) (.int .i64 c)
  have k5 := blk_set (blk_far (blk_below b5 hb1) (p := ⟨w.heap.size, 0, none⟩) (by simp) (.pointer none)) 0 (.int .i64 c)
  have kb : Below w.heap.size w ((w1.setCell ⟨w.heap.size, 0, none⟩ (.pointer none)).setCell ⟨w.heap.size + 1, 0, none⟩ (.int .i64 c)) := below_set (below_set (below_then bel bel.size hb1) (Nat.le_refl _)) (Nat.le_succ _)
  generalize ((w1.setCell ⟨w.heap.size, 0, none⟩ (.pointer none)).setCell ⟨w.heap.size + 1, 0, none⟩ (.int .i64 c)) = wf at *
  have s1 : wf.cell? ⟨w.heap.size, 0, none⟩ = some (.pointer none) := (blk_cell k4 0).trans rfl
  have s3 : wf.cell? ⟨w.heap.size + 1, 0, none⟩ = some (.int .i64 c) := (blk_cell k5 0).trans rfl
  have hs : settle (.panicking ({ v := .iface 26 (.int .i64 c), recovered := true } :: [])) = .returning := rfl
  show Leaves _ _ _ _ [] (settle _) wf
  rw [hs]
  refine ⟨.tuple #[.pointer none, .int .i64 c], ?_, hR _ kb⟩
  have e4 : tmps[4]?.getD undef = .pointer (some ⟨w.heap.size, 0, none⟩) := by simpa using h4
  have e5 : tmps[5]?.getD undef = .pointer (some ⟨w.heap.size + 1, 0, none⟩) := by simpa using h5
  simp [results, Try.results41, go_sem, h4, h5, e4, e5, s1, s3]
/-- What Read's deferred closure needs. -/
theorem two_cells (w : World) : ((w.alloc (.cells #[.pointer none] 57)).alloc (.cells #[.int .i64 0] 26)).heap[w.heap.size]? = some (.cells #[.pointer none] 57 (0, 0)) ∧ ((w.alloc (.cells #[.pointer none] 57)).alloc (.cells #[.int .i64 0] 26)).heap[w.heap.size + 1]? = some (.cells #[.int .i64 0] 26 (0, 0)) ∧ Below w.heap.size w ((w.alloc (.cells #[.pointer none] 57)).alloc (.cells #[.int .i64 0] 26)) := by
  have h5 := blk_new (w.alloc (.cells #[.pointer none] 57)) (.cells #[.int .i64 0] 26)
  rw [show (w.alloc (.cells #[.pointer none] 57)).heap.size = w.heap.size + 1 from by simp] at h5
  exact ⟨blk_alloc (blk_new _ _) _, h5, below_alloc (below_alloc (Below.refl _ _) _) _⟩
end Go.Proofs.Ytebmfbfmdbimdaa.F
