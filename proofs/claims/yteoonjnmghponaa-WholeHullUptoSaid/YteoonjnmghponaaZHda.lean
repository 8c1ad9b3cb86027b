/- Package path: what its check lets in. Package path: Flat, walked: the polygons lie in every box that holds the knots. Package path: Flat, walked: the polygons lie in every box that holds the knots. -/
import Derived.Test.YteoonjnmghponaaZHbb
import Derived.Test.YteoonjnmghponaaZHc1
namespace Go.Proofs.Yteoonjnmghponaa.H
open Go.RowKit Go.Proofs.Yteoonjnmghponaa.F Go.Proofs.YteoonjnmghponaaW.PrintWords Go.Proofs.YteoonjnmghponaaW.PrintLast Go.Proofs.YteoonjnmghponaaW.PrintMore
set_option linter.unusedVariables false
set_option linter.unusedSimpArgs false
def inM (z : Int) : Bool := decide (-2147483647 ≤ z) && decide (z ≤ 2147483647)
theorem check_num (z : Int) : fixed_Check.f z = some (if inM z then 0 else 14) := by
  unfold fixed_Check.f inM
  by_cases h1 : z < -2147483647
  · rw [if_pos h1, decide_eq_false (by omega : ¬ -2147483647 ≤ z)]
    rfl
  · rw [if_neg h1, decide_eq_true (by omega : -2147483647 ≤ z)]
    by_cases h2 : z > 2147483647
    · rw [if_pos h2, decide_eq_false (by omega : ¬ z ≤ 2147483647)]
      rfl
    · rw [if_neg h2, decide_eq_true (by omega : z ≤ 2147483647)]
      rfl
def od (s : S70) : Bool := decide (s.f2 < 1) || decide (s.f2 > 3)
def wd (s : S70) : Bool := !(inM s.f0 && inM s.f1)
theorem l1_step {k : Nat} {x0 x10 : List (List S70)} {n : Int} {o w : Bool} {x11 x12 : Int} {c : List S70} {i : Int} (h0 : 0 ≤ i) (h1 : i < c.length) :
    path_check.l1 (k + 1) x0 n o w x10 x11 x12 c c.length i = path_check.l1 k x0 n (o || od (rd_T70 c i)) (w || wd (rd_T70 c i)) x10 x11 x12 c c.length (wrap64 (i + 1)) := by
  generalize hs : rd_T70 c i = s
  simp only [path_check.l1, check_num, Option.bind_some, hs]
  rw [if_pos h1, if_pos h0, if_pos h1]
  unfold od wd
  cases o <;> cases w <;> cases inM s.f0 <;> cases inM s.f1 <;> by_cases c1 : s.f2 < 1 <;> by_cases c2 : s.f2 > 3 <;> simp [c1, c2]
theorem l1_end {k : Nat} {x0 x10 : List (List S70)} {n : Int} {x11 x12 : Int} {c : List S70} (hc : c.length < 4000000000000) :
    ∀ (m : Nat) (i : Int) (o w : Bool), 0 ≤ i → i ≤ c.length → (c.length - i).toNat = m →
    path_check.l1 (k + m + 1) x0 n o w x10 x11 x12 c c.length i = path_check.l0 k x0 n (o || (c.drop i.toNat).any od) (w || (c.drop i.toNat).any wd) x10 x11 (wrap64 (x12 + 1)) := by
  intro m
  induction m with
  | zero =>
    intro i o w h0 h1 hm
    have hi : i.toNat = c.length := by omega
    rw [hi, List.drop_length]
    simp only [path_check.l1, List.any_nil, Bool.or_false]
    rw [if_neg (by omega)]
  | succ m ih =>
    intro i o w h0 h1 hm
    have hw : wrap64 (i + 1) = i + 1 := by unfold wrap64; omega
    have hi : i.toNat < c.length := by omega
    have hr : rd_T70 c i = c[i.toNat] := by
      unfold rd_T70
      rw [List.getD_eq_getElem?_getD, List.getElem?_eq_getElem hi]
      rfl
    rw [show k + (m + 1) + 1 = (k + m + 1) + 1 by omega, l1_step h0 (by omega), hw, ih (i + 1) _ _ (by omega) (by omega) (by omega), hr, show (i + 1).toNat = i.toNat + 1 by omega, List.drop_eq_getElem_cons hi, List.any_cons, List.any_cons, Bool.or_assoc, Bool.or_assoc]
/-- A contour that is let in. -/
def OkC (c : List S70) : Prop := c.length ≤ 4096 ∧ ∀ s ∈ c, od s = false ∧ wd s = false
theorem l0_end {xs : List (List S70)} (hx : ∀ c ∈ xs, c.length < 4000000000000) (hl : xs.length < 4000000000000) :
    ∀ (m : Nat) (i n : Int) (o w : Bool), 0 ≤ i → i ≤ xs.length → (xs.length - i).toNat = m → 0 ≤ n → n ≤ 4096 →
    ∃ k r, path_check.l0 k xs n o w xs xs.length i = some r ∧ (r = 0 → o = false ∧ w = false ∧ xs.length ≤ 256 ∧ ∀ c ∈ xs.drop i.toNat, OkC c) := by
  intro m
  induction m with
  | zero =>
    intro i n o w h0 h1 hm hn hn2
    have hi : i.toNat = xs.length := by omega
    refine ⟨1, if (xs.length : Int) > 256 then 63 else if o = true then 61 else if w = true then 64 else 0, ?_, ?_⟩
    · simp only [path_check.l0]
      rw [if_neg (by omega)]
      by_cases c1 : (xs.length : Int) > 256
      · rw [if_pos c1, if_pos c1]
      · rw [if_neg c1, if_neg c1]
        cases o <;> cases w <;> rfl
    rw [hi, List.drop_length]
    intro h
    by_cases c1 : (xs.length : Int) > 256
    · rw [if_pos c1] at h
      cases h
    · cases o <;> cases w <;> simp [c1] at h ⊢
      omega
  | succ m ih =>
    intro i n o w h0 h1 hm hn hn2
    have hi : i.toNat < xs.length := by omega
    have hr : rd_L4 xs i = xs[i.toNat] := by
      unfold rd_L4
      rw [List.getD_eq_getElem?_getD, List.getElem?_eq_getElem hi]
      rfl
    have hcl := hx _ (List.getElem_mem hi)
    have hw : wrap64 (n + (xs[i.toNat].length : Int)) = n + xs[i.toNat].length := by unfold wrap64; omega
    have hw1 : wrap64 (i + 1) = i + 1 := by unfold wrap64; omega
    by_cases c1 : n + (xs[i.toNat].length : Int) > 4096
    · refine ⟨1, 63, ?_, fun h => by cases h⟩
      simp only [path_check.l0]
      rw [if_pos (by omega), if_pos h0, if_pos (by omega), hr, hw, if_pos c1]
    · obtain ⟨k, r, h2, h3⟩ := ih (i + 1) (n + xs[i.toNat].length) (o || xs[i.toNat].any od) (w || xs[i.toNat].any wd) (by omega) (by omega) (by omega) (by omega) (by omega)
      refine ⟨k + xs[i.toNat].length + 2, r, ?_, fun h => ?_⟩
      · rw [show k + xs[i.toNat].length + 2 = (k + xs[i.toNat].length + 1) + 1 by omega]
        simp only [path_check.l0]
        rw [if_pos (by omega), if_pos h0, if_pos (by omega), hr, hw, if_neg c1]
        have := l1_end (k := k) (x0 := xs) (x10 := xs) (n := n + xs[i.toNat].length) (x11 := xs.length) (x12 := i) hcl xs[i.toNat].length 0 o w (by omega) (by omega) (by omega)
        rw [this, hw1]
        simpa using h2
      · obtain ⟨a1, a2, a3, a4⟩ := h3 h
        simp only [Bool.or_eq_false_iff] at a1 a2
        refine ⟨a1.1, a2.1, a3, fun c hc => ?_⟩
        rw [List.drop_eq_getElem_cons hi] at hc
        rcases List.mem_cons.1 hc with h | h
        · rw [h]
          refine ⟨by omega, fun s hs => ⟨?_, ?_⟩⟩
          · have := List.any_eq_false.1 a1.2 s hs
            simpa using this
          · have := List.any_eq_false.1 a2.2 s hs
            simpa using this
        · exact a4 c (by rw [show (i + 1).toNat = i.toNat + 1 by omega]; exact h)
theorem check_ok {xs : List (List S70)} (hx : ∀ c ∈ xs, c.length < 4000000000000) (hl : xs.length < 4000000000000) : ∃ k r, path_check.f k xs = some r ∧ (r = 0 → xs.length ≤ 256 ∧ ∀ c ∈ xs, OkC c) := by
  obtain ⟨k, r, h1, h2⟩ := l0_end hx hl xs.length 0 0 false false (by omega) (by omega) (by omega) (by omega) (by omega)
  exact ⟨k, r, h1, fun h => ⟨(h2 h).2.2.1, by simpa using (h2 h).2.2.2⟩⟩
/-- Knots that are let in, in a box that holds them. -/
theorem OkC.inK {c : List S70} {B : Bx} (h : OkC c) (hb : ∀ s ∈ c, InS B s.f0 s.f1) : ∀ s ∈ c, InK B s := fun s hs => by
  have h1 := (h.2 s hs).1
  unfold od at h1
  simp only [Bool.or_eq_false_iff, decide_eq_false_iff_not] at h1
  exact ⟨hb s hs, by omega, by omega⟩
theorem OkC.num {c : List S70} (h : OkC c) : ∀ s ∈ c, (-2147483647 ≤ s.f0 ∧ s.f0 ≤ 2147483647) ∧ -2147483647 ≤ s.f1 ∧ s.f1 ≤ 2147483647 := fun s hs => by
  have h1 := (h.2 s hs).2
  unfold wd inM at h1
  simp only [Bool.not_eq_false', Bool.and_eq_true, decide_eq_true_eq] at h1
  exact h1
end Go.Proofs.Yteoonjnmghponaa.H
namespace Go.Proofs.Yteoonjnmghponaa.H
open Go.RowKit Go.Proofs.Yteoonjnmghponaa.F Go.Proofs.YteoonjnmghponaaW.PrintWords Go.Proofs.YteoonjnmghponaaW.PrintLast Go.Proofs.YteoonjnmghponaaW.PrintMore
set_option linter.unusedVariables false
set_option linter.unusedSimpArgs false
/-- The contours in memory, from the i-th on, each a row of its own; all that lies below block m. -/
structure R7 (b m : Nat) (ad : Addr) (xs : List (List S70)) (U : Nat → Value) (i : Nat) (W : World) : Prop where
  cell : ∀ j, i ≤ j → j < xs.length → W.cell? (ad.add j) = some (U j)
  row : ∀ j, i ≤ j → j < xs.length → Kd.R k70 70 W b (fun k => some k = (U j).ownBlock) (U j) (xs.getD j [])
  apart : ∀ j j', i ≤ j → j < j' → j' < xs.length → ∀ k, some k = (U j').ownBlock → some k ≠ (U j).ownBlock
  top : ∀ j, i ≤ j → j < xs.length → some ad.block ≠ (U j).ownBlock
  lt : ad.block < m
  rlt : ∀ j, i ≤ j → j < xs.length → ∀ k, some k = (U j).ownBlock → k < m
theorem R7.step {b m : Nat} {ad : Addr} {xs : List (List S70)} {U : Nat → Value} {i : Nat} {W W' : World} (h : R7 b m ad xs U i W) (hi : i < xs.length) (hk : Kept W W' (fun k => some k = (U i).ownBlock)) : R7 b m ad xs U (i + 1) W' :=
  ⟨fun j h1 h2 => cell_kept (h.cell j (by omega) h2) hk (fun e => h.top i (Nat.le_refl _) hi (by rw [add_block] at e; exact e)), fun j h1 h2 => Kd.R_step (h.row j (by omega) h2) (fun k hk' hlt => hk.2 k hlt (h.apart i j (Nat.le_refl _) (by omega) h2 k hk')),
   fun j j' h1 h2 h3 => h.apart j j' (by omega) h2 h3, fun j h1 h2 => h.top j (by omega) h2, h.lt, fun j h1 h2 => h.rlt j (by omega) h2⟩
theorem R7.keep {b m : Nat} {ad : Addr} {xs : List (List S70)} {U : Nat → Value} {i : Nat} {W W' : World} (h : R7 b m ad xs U i W) (hk : Kept W W' (fun k => m ≤ k)) : R7 b m ad xs U i W' :=
  ⟨fun j h1 h2 => cell_kept (h.cell j h1 h2) hk (fun e => by
    have e2 : m ≤ (ad.add j).block := e
    rw [add_block] at e2
    have := h.lt
    omega), fun j h1 h2 => Kd.R_step (h.row j h1 h2) (fun k hk' hlt => hk.2 k hlt (by have := h.rlt j h1 h2 k hk'; omega)), h.apart, h.top, h.lt, h.rlt⟩
theorem r7_of {w : World} {b n c : Nat} {ok : Nat → Prop} {ad : Addr} {xs : List (List S70)} (h : Kd.S (Kd.slice 70 k70) 65 w b ok (.slice (some ad) n c) xs) (hn : n = xs.length) : ∃ U, R7 b w.heap.size ad xs U 0 w := by
  have hlt0 : ad.block < w.heap.size := Kd.S_lt h ad.block (by simp [Value.ownBlock])
  obtain ⟨f, hf⟩ := h
  have hown : ∀ j, j < xs.length → ∃ u, w.cell? (ad.add j) = some u ∧ Kd.R k70 70 w b (fun k => ok k ∧ f k = j ∧ some k ≠ (Value.slice (some ad) n c).ownBlock) u (xs.getD j []) := fun j hj => by
    obtain ⟨cs, hl, ⟨u, hu, hR⟩, hc⟩ := Kd.R_getA hf (([] : List S70), 0) (j : Int) (by omega) (by omega)
    have hg : (xs.zipIdx.getD (Int.toNat (j : Int)) (([] : List S70), 0)) = (xs.getD j [], j) := by
      rw [Int.toNat_natCast, List.getD_eq_getElem?_getD, List.getD_eq_getElem?_getD, List.getElem?_zipIdx]
      rw [List.getElem?_eq_getElem hj]
      simp
    rw [hg] at hR
    refine ⟨u, ?_, Kd.R_mono hR (fun k hk => ⟨hk.1.1, hk.2, hk.1.2⟩)⟩
    have := hc 0 u (by rw [hu]; rfl)
    rw [Int.toNat_natCast] at this
    simpa [Kd.tag, Kd.slice] using this
  refine ⟨fun j => if hj : j < xs.length then (hown j hj).choose else .slice none 0 0, ⟨fun j _ hj => ?_, fun j _ hj => ?_, fun j j' _ h1 h2 k hk => ?_, fun j _ hj => ?_, hlt0, fun j _ hj k hk => ?_⟩⟩
  · simp only [hj, dif_pos]
    exact (hown j hj).choose_spec.1
  · simp only [hj, dif_pos]
    exact Kd.R_mono (Kd.R_tight rfl (hown j hj).choose_spec.2) (fun k hk => hk)
  · have hj : j < xs.length := by omega
    simp only [h2, hj, dif_pos] at hk ⊢
    intro e
    have a1 := (hown j' h2).choose_spec.2.1 k hk.symm
    have a2 := (hown j hj).choose_spec.2.1 k e.symm
    have := a1.2.1
    have := a2.2.1
    omega
  · simp only [hj, dif_pos]
    intro e
    have a2 := (hown j hj).choose_spec.2.1 ad.block e.symm
    exact a2.2.2 (by simp [Value.ownBlock])
  · simp only [hj, dif_pos] at hk
    exact Kd.R_lt (hown j hj).choose_spec.2 k hk.symm
end Go.Proofs.Yteoonjnmghponaa.H
namespace Go.Proofs.Yteoonjnmghponaa.H
open Go.RowKit Go.Proofs.Yteoonjnmghponaa.F Go.Proofs.YteoonjnmghponaaW.PrintWords Go.Proofs.YteoonjnmghponaaW.PrintLast Go.Proofs.YteoonjnmghponaaW.PrintMore
set_option linter.unusedVariables false
set_option linter.unusedSimpArgs false
theorem add0 (g i : Nat) : (⟨g, 0, none⟩ : Addr).add i = ⟨g, i, none⟩ := by
  unfold Addr.add
  split <;> simp_all
theorem infoS31 : (Try.prog.info? 31).map (fun i => (i.zero, i.size, i.bytes)) = some (some (.slice none 0 0), 1, 24) := by kernel_rfl
theorem ne31 : ∀ q, q ∈ 30 :: k30.E → q ≠ 31 := by decide
/-- The polygons laid so far. -/
structure Fo (w : World) (g n : Nat) (B : Bx) (cs : Array Value) (ls : List (List S30)) (W : World) : Prop where
  blk : W.heap[g]? = some (.cells cs 31 (0, 0))
  sz : n ≤ cs.size
  row : ∀ j (h : j < ls.length), ∃ v, cs[j]? = some v ∧ Kd.R k30 30 W w.heap.size (fun _ => True) v ls[j]
  inn : ∀ c ∈ ls, c.length ≤ 70000 ∧ ∀ s ∈ c, InS B s.f0 s.f1
  hg : w.heap.size ≤ g
theorem Fo.keep {w W W' : World} {g n : Nat} {B : Bx} {cs : Array Value} {ls : List (List S30)} (h : Fo w g n B cs ls W) (hk : Kept W W' (fun k => k < w.heap.size)) : Fo w g n B cs ls W' :=
  ⟨(hk.2 g (blk_lt h.blk) (by have := h.hg; omega)).trans h.blk, h.sz, fun j hj => by
    obtain ⟨v, h1, h2⟩ := h.row j hj
    exact ⟨v, h1, Kd.R_mono (Kd.R_step (Kd.R_bound h2) (fun k hk' hlt => hk.2 k hlt (by have := hk'.2.1; omega))) (fun _ _ => trivial)⟩, h.inn, h.hg⟩
theorem Fo.put {w W : World} {g n : Nat} {B : Bx} {cs : Array Value} {ls : List (List S30)} {v : Value} {l : List S30} (h : Fo w g n B cs ls W) (hi : ls.length < n) (hv : Kd.R k30 30 W w.heap.size (fun _ => True) v l) (hl : l.length ≤ 70000 ∧ ∀ s ∈ l, InS B s.f0 s.f1) :
    Fo w g n B (cs.setIfInBounds ls.length v) (ls ++ [l]) (W.setCell ⟨g, ls.length, none⟩ v) := by
  have hz := h.sz
  refine ⟨blk_put h.blk _ _ rfl, by simpa using hz, fun j hj => ?_, fun c hc => ?_, h.hg⟩
  · rw [List.length_append] at hj
    simp only [List.length_cons, List.length_nil] at hj
    by_cases hjl : j < ls.length
    · obtain ⟨u, h1, h2⟩ := h.row j hjl
      refine ⟨u, by rw [Array.getElem?_setIfInBounds_ne (by omega)]; exact h1, ?_⟩
      rw [List.getElem_append_left hjl]
      exact Kd.R_set h2 h.blk ne31 _ _
    · have hje : j = ls.length := by omega
      subst hje
      refine ⟨v, by rw [Array.getElem?_setIfInBounds_self_of_lt (by omega)], ?_⟩
      rw [List.getElem_append_right (Nat.le_refl _)]
      simp only [Nat.sub_self, List.getElem_cons_zero]
      exact Kd.R_set hv h.blk ne31 _ _
  · rcases List.mem_append.1 hc with h1 | h1
    · exact h.inn c h1
    · rw [List.mem_singleton.1 h1]
      exact hl
theorem Fo.reads {w W : World} {g n : Nat} {B : Bx} {cs : Array Value} {ls : List (List S30)} (h : Fo w g n B cs ls W) (hl : ls.length ≤ 256) : Kd.C (Kd.slice 30 k30) W (some ⟨g, 0, none⟩) ls.length ls := by
  refine ⟨rfl, by omega, fun _ => ⟨⟨g, 0, none⟩, rfl, fun j p hp => ?_⟩⟩
  obtain ⟨hj, hpe⟩ := List.getElem?_eq_some_iff.1 hp
  obtain ⟨v, h1, h2⟩ := h.row j hj
  rw [hpe] at h2
  obtain ⟨A, c, rfl⟩ := Kd.R_slice h2
  refine ⟨[.slice A p.length c], rfl, ⟨A, c, rfl, (Kd.R_reads' h2).2.1, (Kd.R_reads' h2).2.2⟩, fun i u hu => ?_⟩
  have hi : i = 0 := by
    have := (List.getElem?_eq_some_iff.1 hu).1
    simp at this
    exact this
  subst hi
  have hu2 : Value.slice A p.length c = u := by simpa using hu
  rw [← hu2, add0]
  show W.cell? ⟨g, j * 1 + 0, none⟩ = _
  rw [Nat.mul_one, Nat.add_zero, blk_cell h.blk]
  exact h1
/-- What Flat answers. -/
def FlatE (B : Bx) (w0 : World) (xs : List (List S70)) (e : Ending) (w' : World) : Prop := Below w0.heap.size w0 w' ∧
  ((∃ r, r ≠ 0 ∧ e = .returned (.tuple #[.slice none 0 0, .int .i64 r])) ∨
   ((∀ c ∈ xs, OkC c) ∧ ∃ A c ls, e = .returned (.tuple #[.slice A ls.length c, .int .i64 0]) ∧ ls.length ≤ c ∧ Kd.C (Kd.slice 30 k30) w' A ls.length ls ∧ ls.length ≤ 256 ∧ (∀ c ∈ ls, c.length ≤ 70000 ∧ ∀ s ∈ c, InS B s.f0 s.f1) ∧ ls.length = xs.length ∧ ∀ j, j < xs.length → xs.getD j [] ≠ [] → ls.getD j [] ≠ []))
set_option maxHeartbeats 4000000 in
set_option maxRecDepth 100000 in
theorem flat_any {B : Bx} {w0 w : World} {ok : Nat → Prop} {v : Value} {xs : List (List S70)} (hb : Below w0.heap.size w0 w) (hS : Kd.S (Kd.slice 70 k70) 65 w w0.heap.size ok v xs) (hx : ∀ c ∈ xs, c.length < 4000000000000) (hl : xs.length < 4000000000000) (hB : (∀ c ∈ xs, OkC c) → B.Ok ∧ ∀ c ∈ xs, ∀ s ∈ c, InS B s.f0 s.f1) :
    Calls Try.prog 6 #[v] w (FlatE B w0 xs) := by
  obtain ⟨A, c, rfl⟩ := Kd.S_slice hS
  obtain ⟨k, r, hr, hok⟩ := check_ok hx hl
  have HR := Aside0.mk hr
  have HRd := Aside0.mk (Kd.S_reads' hS)
  have HBw := Aside0.mk hb
  have HB := Aside0.mk hB
  have HOk := Aside0.mk hok
  have HSs := Aside0.mk hS
  clear hb hS hx hl hB hr hok
  by_cases hr0 : r = 0
  case neg =>
    have hrb : (r == 0) = false := by rw [beq_eq_false_iff_ne]; exact hr0
    have hrn : (r != 0) = true := by rw [bne_iff_ne]; exact hr0
    go_enter Try.func6, Try.ntmps6
    go_wp2_with (go_at_call 20; ((with_reducible refine Calls.mono (path_check.calls k A c xs r _ HRd.out.2.2 HRd.out.2.1 HR.out) ?_); rintro e w1 ⟨rfl, hb1⟩; have HB1 := Aside0.mk (below_then HBw.out HBw.out.size hb1); clear hb1))
    go_ret2
    exact ⟨HB1.out, .inl ⟨r, hr0, rfl⟩⟩
  case pos =>
    subst hr0
    have hok := HOk.out rfl
    have hlx : xs.length ≤ 256 := hok.1
    have HX := Aside0.mk hok.2
    have HBx := Aside0.mk (HB.out hok.2)
    clear hok HOk HB
    go_enter Try.func6, Try.ntmps6
    go_upto_region 4 with (go_at_call 20; ((with_reducible refine Calls.mono (path_check.calls k A c xs 0 _ HRd.out.2.2 HRd.out.2.1 HR.out) ?_); rintro e w1 ⟨rfl, hb1⟩; have HS1 := Aside0.mk (Kd.S_below HSs.out hb1); have HB1 := Aside0.mk (below_then HBw.out HBw.out.size hb1); clear hb1))
    clear HSs HBw HRd HR
    go_upto_region 5 with ((with_reducible refine gate_dst (N := 17) rfl ?_); refine Kd.R_make (Kd.slice 30 k30) w1.heap.size 31 rfl (N := 17) rfl 32 _ _ rfl (xs.length : Int) rfl rfl Try.underlying32 (.slice none 0 0) 24 infoS31 rfl (by decide) (by omega) ([] : List S30) (ok := fun _ => True) (okp := fun _ => True) ?hz (fun _ hk => hk) trivial (by omega) (by omega) (Below.refl _ _) (Nat.le_refl _) ?_; (case hz => exact ⟨_, rfl, Kd.R_nil _ _ _ _ _⟩); intro v17 w2 ho hb hg hat; have HO2 := Aside0.mk ho; have HB2 := Aside0.mk hb; clear ho hb hg hat)
    have hw12 := Aside0.mk HB2.out.size
    have HB1s := Aside0.mk HB1.out.size
    have HB02 := Aside0.mk (below_then HB1.out HB1.out.size HB2.out)
    rcases Nat.eq_zero_or_pos xs.length with h0 | h0
    · have hz : ¬ (0 : Int) < (xs.length : Int) := by omega
      have HXs := Aside0.mk (List.length_eq_zero_iff.1 h0)
      have ho := HO2.out
      rw [h0] at ho
      obtain ⟨A2, c2, hv⟩ := Kd.R_slice ho
      simp only [Int.toNat_natCast, Int.toNat_zero, List.replicate_zero, List.length_nil] at hv ho
      subst hv
      have HO3 := Aside0.mk (Kd.R_reads' ho)
      have HB03 := HB02
      have hz0 : xs.length = 0 := h0
      clear ho HO2 h0
      generalize xs.length = n0 at *
      subst hz0
      go_wp2
      go_loopg [6, 7, 8, 9, 20] 0 (fun kx s6 s7 s8 s9 s20 wr => s20 = .int .i64 0 ∧ wr = w2)
      case atStart => exact ⟨rfl, rfl⟩
      case round =>
      obtain ⟨rfl, rfl⟩ := hrel
      go_wp2
      go_ret2
      exact ⟨HB02.out, .inr ⟨HX.out, A2, c2, [], rfl, Nat.zero_le _, HO3.out.2.2, by simp, by simp, by rw [HXs.out]; rfl, fun j hj => by rw [HXs.out] at hj; exact absurd hj (by simp)⟩⟩
    · obtain ⟨g, cap, e2, hg, hg1, cs0, hcs⟩ := Kd.R_form HO2.out (by simp; omega)
      have ho := HO2.out
      rw [e2] at ho
      subst e2
      simp only [List.length_replicate, Int.toNat_natCast] at ho ⊢
      have hsz : xs.length ≤ cs0.size := by
        obtain ⟨cc, hl, ⟨u, hu, _⟩, h1, _⟩ := Kd.R_elem ho ([] : List S30) ((xs.length : Int) - 1) (by omega) (by omega)
        have h2 := h1 0 u (by rw [hu]; rfl)
        rw [blk_cell hcs] at h2
        have h3 := (Array.getElem?_eq_some_iff.1 h2).1
        have : (Kd.slice 30 k30).sz = 1 := rfl
        rw [this] at h3
        omega
      have hcap := (Kd.R_reads' ho).2.1
      have HFo : Aside0 (Fo w1 g xs.length B cs0 [] w2) := ⟨⟨hcs, hsz, fun j hj => by simp at hj, by simp, hg⟩⟩
      obtain ⟨gx, capx, ex, hgx, _, _⟩ := Kd.S_form HS1.out h0
      injection ex with ex1 ex2 ex3
      subst ex1
      obtain ⟨U, hU⟩ := r7_of HS1.out rfl
      have HU := Aside0.mk (hU.keep (Kept.of_below HB2.out _))
      clear ho HO2 hU hcs hsz HS1 HB1 HB2 ex3 hg hg1
      have hcl : ∀ i : Nat, i < xs.length → xs.getD i [] ∈ xs := fun i hi => by
        rw [List.getD_eq_getElem?_getD, List.getElem?_eq_getElem hi]
        exact List.getElem_mem hi
      have HCL := Aside0.mk hcl
      have hbB := HBx.out.1
      have HBB := Aside0.mk hbB
      clear hcl hbB
      go_wp2
      go_loopg [6, 7, 8, 9, 20] xs.length (fun kx s6 s7 s8 s9 s20 wr => ∃ (i : Nat) (cs : Array Value) (ls : List (List S30)), s20 = .int .i64 i ∧ i ≤ xs.length ∧ xs.length - i ≤ kx ∧ Aside0 (ls.length = i) ∧ Aside0 (Fo w1 g xs.length B cs ls wr) ∧ Aside0 (R7 w0.heap.size w1.heap.size ⟨gx, 0, none⟩ xs U i wr) ∧ Aside0 (Below w0.heap.size w0 wr) ∧ Aside0 (w1.heap.size ≤ wr.heap.size) ∧ Aside0 (∀ j, j < i → xs.getD j [] ≠ [] → ls.getD j [] ≠ []))
      case atStart => exact ⟨0, cs0, [], rfl, Nat.zero_le _, Nat.le_refl _, ⟨rfl⟩, HFo, HU, HB02, hw12, ⟨fun j hj => absurd hj (by omega)⟩⟩
      case round =>
        clear HFo HU HB02 hw12
        obtain ⟨i, cs, ls, rfl, hin, hkx, HLs, HFo, HU, HB2, HW, HNZ⟩ := hrel
        by_cases hlt : i < xs.length
        · have hltz : (i : Int) < (xs.length : Int) := by omega
          have ki : wr.cell? ⟨gx, i, none⟩ = some (U i) := by
            have := HU.out.cell i (Nat.le_refl _) hlt
            rw [add0] at this
            exact this
          have hrow := HU.out.row i (Nat.le_refl _) hlt
          have hki := HX.out _ (HCL.out i hlt)
          have hcon := contour_any HBB.out HB2.out hrow hki.1 (hki.inK (HBx.out.2 _ (HCL.out i hlt)))
          have HCon := Aside0.mk hcon
          obtain ⟨ui, hui⟩ : ∃ z, z = U i := ⟨_, rfl⟩
          have HUi := Aside0.mk hui
          rw [← hui] at ki HCon
          clear hui hrow hki hcon
          go_upto_region 9 with (go_at_call 21; ((with_reducible refine Calls.mono HCon.out ?_); rintro e w3 ⟨v3, okv, l3, rfl, ho3, hin3, hln3, hkp3, hb3, hne3⟩; obtain ⟨A3, c3, rfl⟩ := Kd.R_slice ho3; have HO3 := Aside0.mk ho3; have HI3 := Aside0.mk hin3; have HL3 := Aside0.mk hln3; have HK3 := Aside0.mk hkp3; have HB3 := Aside0.mk hb3; have HN3 := Aside0.mk hne3; clear ho3 hin3 hln3 hkp3 hb3 hne3))
          cases okv
          · go_wp2
            go_ret2
            exact ⟨HB3.out, .inl ⟨61, by decide, rfl⟩⟩
          · have hown : ∀ k, some k = ui.ownBlock → k < w1.heap.size := fun k hk => HU.out.rlt i (Nat.le_refl _) hlt k (by rw [← HUi.out]; exact hk)
            have HF3 := Aside0.mk (HFo.out.keep (HK3.out.mono hown))
            have HU3 := Aside0.mk (HU.out.step hlt (by rw [← HUi.out]; exact HK3.out))
            have HO3b := Aside0.mk (Kd.R_lower HO3.out HW.out)
            have hsz := HF3.out.sz
            have hls := HLs.out
            obtain ⟨cv, hcv⟩ : ∃ z, cs[i]? = some z := ⟨_, Array.getElem?_eq_getElem (by omega)⟩
            have kg : w3.cell? ⟨g, i, none⟩ = some cv := (blk_cell HF3.out.blk i).trans hcv
            have fg := blk_frozen HF3.out.blk i
            have hp4 := HF3.out.put (v := .slice A3 l3.length c3) (l := l3) (by omega) HO3b.out ⟨HL3.out, HI3.out⟩
            rw [hls] at hp4
            have HP4 := Aside0.mk hp4
            have HK4 : Aside0 (Kept w3 (w3.setCell ⟨g, i, none⟩ (.slice A3 l3.length c3)) (fun k => w1.heap.size ≤ k)) := ⟨(Kept.refl _ _).setCell (.inl HF3.out.hg) _⟩
            have HG0 : Aside0 (w0.heap.size ≤ g) := ⟨by have := HF3.out.hg; have := HB1s.out; omega⟩
            have HS4 : Aside0 (w1.heap.size ≤ w3.heap.size) := ⟨Nat.le_trans HW.out HK3.out.1⟩
            have hnz4 : ∀ j, j < i + 1 → xs.getD j [] ≠ [] → (ls ++ [l3]).getD j [] ≠ [] := fun j hj hx => by
              rw [List.getD_eq_getElem?_getD]
              by_cases hji : j < i
              · rw [List.getElem?_append_left (by omega), ← List.getD_eq_getElem?_getD]
                exact HNZ.out j hji hx
              · have hje : j = i := by omega
                subst hje
                rw [List.getElem?_append_right (by omega), hls, Nat.sub_self]
                exact HN3.out rfl hx
            have HNZ4 := Aside0.mk hnz4
            clear hnz4
            clear hp4 hcv hsz hown ki
            go_wp2
            go_roundg (xs.length - (i + 1))
            case measure => omega
            case rel => exact ⟨i + 1, _, ls ++ [l3], by go_num, by omega, Nat.le_refl _, ⟨by rw [List.length_append, hls]; rfl⟩, HP4, ⟨HU3.out.keep HK4.out⟩, ⟨HB3.out.setCell HG0.out _⟩, ⟨by simpa using HS4.out⟩, HNZ4⟩
        · have hltz : ¬ (i : Int) < (xs.length : Int) := by omega
          have hie : i = xs.length := by omega
          go_wp2
          go_ret2
          have hll : ls.length = xs.length := by rw [HLs.out]; exact hie
          refine ⟨HB2.out, .inr ⟨HX.out, some ⟨g, 0, none⟩, cap, ls, ?_, by omega, HFo.out.reads (by omega), by omega, HFo.out.inn, hll, fun j hj => HNZ.out j (by omega)⟩⟩
          rw [hll]
          rfl
end Go.Proofs.Yteoonjnmghponaa.H
