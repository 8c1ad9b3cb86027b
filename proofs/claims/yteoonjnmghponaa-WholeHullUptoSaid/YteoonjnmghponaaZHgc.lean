/- Package raster: counted, and the function of Fill, walked. Package raster: what its check lets in; the mask's numbers, in plain Lean. -/
import Derived.Test.YteoonjnmghponaaZHgb
import Derived.Test.YteoonjnmghponaaZHda
namespace Go.Proofs.Yteoonjnmghponaa.H
open Go.RowKit Go.Proofs.Yteoonjnmghponaa.F Go.Proofs.YteoonjnmghponaaW.PrintWords Go.Proofs.YteoonjnmghponaaW.PrintLast Go.Proofs.YteoonjnmghponaaW.PrintMore
set_option linter.unusedVariables false
set_option linter.unusedSimpArgs false
theorem infoI : (Try.prog.info? 3).map (fun i => (i.zero, i.size, i.bytes)) = some (some (.int .i64 0), 1, 8) := by kernel_rfl
theorem make_ints (n : Nat) (hn : n ≤ 262144) : ∃ mc : Array Value, (∀ W : World, (Instr.makeSlice 42 (.int .i64 (n : Int)) (.int .i64 (n : Int))).run Try.prog W = .ok (.slice (some ⟨W.heap.size, 0, none⟩) n n) (W.alloc (.cells mc 3))) ∧ mc = ((List.replicate n (0 : Int)).map (Value.int .i64)).toArray := by
  obtain ⟨i0, hi, hzz⟩ := Option.map_eq_some_iff.1 infoI
  simp only [Prod.mk.injEq] at hzz
  obtain ⟨hz0, hz1, hz2⟩ := hzz
  refine ⟨madeCells (Value.int .i64 0).cells (n * i0.size), fun W => ?_, ?_⟩
  · have hr := run_make (P := Try.prog) W 42 3 i0 (.int .i64 0) Try.underlying42 hi hz0 .i64 .i64 (n : Int) (n : Int) (by omega) (by omega) (by rw [hz2]; omega) (by omega)
    simpa only [Int.toNat_natCast] using hr
  · rw [hz1, Nat.mul_one]
    apply Array.ext
    · simp [madeCells]
    · intro i h1 h2
      simp [madeCells, Value.cells, Nat.mod_one]
set_option maxHeartbeats 4000000 in
set_option maxRecDepth 100000 in
theorem counted_any {w : World} {lb c n : Nat} {A : Option Addr} {l : List S137} {B : Bx} {X Y Wd H : Int} {cv : Value} (hcv : cv.oneCell' = true) (hk : Rk l B X Wd Y (64 * Y) (64 * (Y + H)) n) (hn : (n : Int) = Wd * H) (hn2 : n ≤ 262144) (hH : 0 ≤ H ∧ H ≤ 512) (hl : k137.R 137 w lb (fun _ => True) (.slice A l.length c) l) :
    Calls Try.prog 19 #[.slice A l.length c, .agg #[.int .i64 X, .int .i64 Y, .int .i64 Wd, .int .i64 H, cv], .int .i64 0, .int .i64 H] w fun e w' => ∃ g S, e = .returned (.agg #[.int .i64 0, .slice (some ⟨g, 0, none⟩) n n]) ∧ RowsS l (64 * Y) (64 * (Y + H)) S ∧ Ct g (S.foldl (addSpan X Wd Y) (List.replicate n 0)) w' ∧ Below w.heap.size w w' := by
  obtain ⟨mc, hmk, hmc⟩ := make_ints n hn2
  rw [hn] at hmk
  have hWH0 : 0 ≤ Wd * H := by omega
  have hWH1 : Wd * H ≤ 262144 := by omega
  have hjj := hk.jj
  have hw := hk.w1
  have HK := Aside0.mk hk
  have HL := Aside0.mk hl
  have HN := Aside0.mk hn
  clear hk hl
  go_enter Try.func19, Try.ntmps19
  go_upto_region 3 with fail
  obtain ⟨V, hV⟩ : ∃ V, V = (((((w.alloc (.cells #[.int .i64 X, .int .i64 Y, .int .i64 Wd, .int .i64 H, cv] 25)).alloc (.cells #[.int .i64 0, .slice none 0 0] 61)).alloc (.cells (Array.replicate n (.int .i64 0)) 3)).alloc (.cells #[.int .i64 0, .slice (some ⟨w.heap.size + 1 + 1, 0, none⟩) n n] 61)).alloc (.cells #[.int .i64 Y] 3)) := ⟨_, rfl⟩
  have hbm : V.heap[w.heap.size]? = some (.cells #[.int .i64 X, .int .i64 Y, .int .i64 Wd, .int .i64 H, cv] 25 (0, 0)) := by
    rw [hV]
    exact blk_alloc (blk_alloc (blk_alloc (blk_alloc (blk_new _ _) _) _) _) _
  have hbr : V.heap[w.heap.size + 1]? = some (.cells #[.int .i64 0, .slice none 0 0] 61 (0, 0)) := by
    rw [hV]
    have := blk_new (w.alloc (.cells #[.int .i64 X, .int .i64 Y, .int .i64 Wd, .int .i64 H, cv] 25)) (.cells #[.int .i64 0, .slice none 0 0] 61)
    rw [World.size_alloc] at this
    exact blk_alloc (blk_alloc (blk_alloc this _) _) _
  have hbg : V.heap[w.heap.size + 1 + 1]? = some (.cells (Array.replicate n (.int .i64 0)) 3 (0, 0)) := by
    rw [hV]
    have := blk_new ((w.alloc (.cells #[.int .i64 X, .int .i64 Y, .int .i64 Wd, .int .i64 H, cv] 25)).alloc (.cells #[.int .i64 0, .slice none 0 0] 61)) (.cells (Array.replicate n (.int .i64 0)) 3)
    rw [World.size_alloc, World.size_alloc] at this
    exact blk_alloc (blk_alloc this _) _
  have hbb : V.heap[w.heap.size + 1 + 1 + 1]? = some (.cells #[.int .i64 0, .slice (some ⟨w.heap.size + 1 + 1, 0, none⟩) n n] 61 (0, 0)) := by
    rw [hV]
    have := blk_new (((w.alloc (.cells #[.int .i64 X, .int .i64 Y, .int .i64 Wd, .int .i64 H, cv] 25)).alloc (.cells #[.int .i64 0, .slice none 0 0] 61)).alloc (.cells (Array.replicate n (.int .i64 0)) 3)) (.cells #[.int .i64 0, .slice (some ⟨w.heap.size + 1 + 1, 0, none⟩) n n] 61)
    rw [World.size_alloc, World.size_alloc, World.size_alloc] at this
    exact blk_alloc this _
  have hbt : V.heap[w.heap.size + 1 + 1 + 1 + 1]? = some (.cells #[.int .i64 Y] 3 (0, 0)) := by
    rw [hV]
    have := blk_new ((((w.alloc (.cells #[.int .i64 X, .int .i64 Y, .int .i64 Wd, .int .i64 H, cv] 25)).alloc (.cells #[.int .i64 0, .slice none 0 0] 61)).alloc (.cells (Array.replicate n (.int .i64 0)) 3)).alloc (.cells #[.int .i64 0, .slice (some ⟨w.heap.size + 1 + 1, 0, none⟩) n n] 61)) (.cells #[.int .i64 Y] 3)
    rw [World.size_alloc, World.size_alloc, World.size_alloc, World.size_alloc] at this
    exact this
  have hbV : Below w.heap.size w V := by
    rw [hV]
    exact below_alloc (below_alloc (below_alloc (below_alloc (below_alloc (Below.refl _ _) _) _) _) _) _
  have HBV := Aside0.mk hbV
  rw [← hV]
  clear hV
  have hct : Ct (w.heap.size + 1 + 1) (List.replicate n 0) V := by
    show V.heap[w.heap.size + 1 + 1]? = _
    rw [hbg]
    simp
  have hE : En (w.heap.size + 1 + 1 + 1) (w.heap.size + 1 + 1 + 1 + 1) w.heap.size (w.heap.size + 1 + 1) n X Wd Y V := ⟨⟨_, hbb⟩, hbt, ⟨_, _, _, hbm⟩, by omega, by omega, by omega⟩
  have hl2 : k137.R 137 V lb (fun k => k ≠ w.heap.size + 1 + 1) (.slice A l.length c) l := Kd.R_below (Kd.R_mono (Kd.R_bound HL.out) (fun k hk => by have := hk.2.2.1; omega)) hbV
  have hrows := rows_any HK.out hl2 hE hct (by simp)
  have HRW := Aside0.mk hrows
  have ct0 : V.cell? ⟨w.heap.size + 1 + 1 + 1 + 1, 0, none⟩ = some (.int .i64 Y) := (blk_cell hbt 0).trans rfl
  have HBB := Aside0.mk hbb
  have HBR := Aside0.mk hbr
  clear hrows hct hE hl2 hbV hbm hbg hbt hbb hbr hmk hmc HL
  obtain ⟨g, hg⟩ : ∃ g, g = w.heap.size := ⟨_, rfl⟩
  rw [← hg] at HRW HBB HBR HBV ct0 ⊢
  have HG := Aside0.mk hg
  clear hg
  go_upto_region 4 with (go_at_call 45; ((with_reducible refine Calls.mono HRW.out ?_); rintro e w5 ⟨rfl, S, hs5, hc5, hg5⟩; have HS5 := Aside0.mk hs5; have HC5 := Aside0.mk hc5; have HG5 := Aside0.mk hg5; clear hs5 hc5 hg5))
  have hb5 := (HG5.out.block (g + 1 + 1 + 1) (blk_lt HBB.out) (fun e => by injection e with e; omega)).trans HBB.out
  have hr5 := (HG5.out.block (g + 1) (blk_lt HBR.out) (fun e => by injection e with e; omega)).trans HBR.out
  have c0 : w5.cell? ⟨g + 1 + 1 + 1, 0, none⟩ = some (.int .i64 0) := (blk_cell hb5 0).trans rfl
  have c1 : w5.cell? ⟨g + 1 + 1 + 1, 1, none⟩ = some (.slice (some ⟨g + 1 + 1, 0, none⟩) n n) := (blk_cell hb5 1).trans rfl
  have r0 : w5.cell? ⟨g + 1, 0, none⟩ = some (.int .i64 0) := (blk_cell hr5 0).trans rfl
  have r1 : w5.cell? ⟨g + 1, 1, none⟩ = some (.slice none 0 0) := (blk_cell hr5 1).trans rfl
  have f0 := blk_frozen hr5 0
  have f1 := blk_frozen hr5 1
  have HR5 := Aside0.mk hr5
  clear hb5 hr5
  go_wp2
  obtain ⟨wz, hwz⟩ : ∃ wz, wz = (w5.setCell ⟨g + 1, 0, none⟩ (.int .i64 0)).setCell ⟨g + 1, 1, none⟩ (.slice (some ⟨g + 1 + 1, 0, none⟩) n n) := ⟨_, rfl⟩
  have hbz : wz.heap[g + 1]? = some (.cells #[.int .i64 0, .slice (some ⟨g + 1 + 1, 0, none⟩) n n] 61 (0, 0)) := by
    rw [hwz]
    exact blk_put (cs := #[.int .i64 0, .slice none 0 0]) (blk_put (cs := #[.int .i64 0, .slice none 0 0]) HR5.out 0 (.int .i64 0) rfl) 1 _ rfl
  rw [← hwz]
  have z0 : wz.cell? ⟨g + 1, 0, none⟩ = some (.int .i64 0) := (blk_cell hbz 0).trans rfl
  have z1 : wz.cell? ⟨g + 1, 1, none⟩ = some (.slice (some ⟨g + 1 + 1, 0, none⟩) n n) := (blk_cell hbz 1).trans rfl
  have HZ := Aside0.mk hwz
  clear hwz hbz c0 c1 r0 r1 f0 f1
  refine bodyPost_ret (v := .agg #[.int .i64 0, .slice (some ⟨g + 1 + 1, 0, none⟩) n n]) (by simp [results, Try.results19, go_sem, z0, z1]) rfl ?_
  rw [HZ.out]
  refine ⟨g + 1 + 1, S, rfl, HS5.out, ?_, ?_⟩
  · show ((w5.setCell _ _).setCell _ _).heap[g + 1 + 1]? = _
    rw [Below.heap_setCell _ _ _ _ (by simp), Below.heap_setCell _ _ _ _ (by simp)]
    exact HC5.out
  · have hb := HBV.out
    have h5 := HG5.out
    have hg := HG.out
    have hbw : Below w.heap.size w w5 := ⟨h5.os.trans hb.os, h5.tape.trans hb.tape, h5.output.trans hb.output, Nat.le_trans hb.size h5.size, fun k hk => (h5.block k (Nat.lt_of_lt_of_le hk hb.size) (fun e => by injection e with e; omega)).trans (hb.block k (by omega))⟩
    exact (hbw.setCell (p := ⟨g + 1, 0, none⟩) (by rw [hg]; show w.heap.size ≤ w.heap.size + 1; omega) _).setCell (p := ⟨g + 1, 1, none⟩) (by rw [hg]; show w.heap.size ≤ w.heap.size + 1; omega) _
set_option maxHeartbeats 4000000 in
set_option maxRecDepth 100000 in
theorem fill1_any {w : World} {lb c n : Nat} {A : Option Addr} {l : List S137} {B : Bx} {X Y Wd H : Int} (hk : Rk l B X Wd Y (64 * Y) (64 * (Y + H)) n) (hn : (n : Int) = Wd * H) (hn2 : n ≤ 262144) (hH : 0 ≤ H ∧ H ≤ 512) (hl : k137.R 137 w lb (fun _ => True) (.slice A l.length c) l) :
    Calls Try.prog 18 #[.slice A l.length c, .agg #[.int .i64 X, .int .i64 Y, .int .i64 Wd, .int .i64 H, .slice none 0 0]] w fun e w' => ∃ g S, e = .returned (.slice (some ⟨g, 0, none⟩) n n) ∧ RowsS l (64 * Y) (64 * (Y + H)) S ∧ Ct g (S.foldl (addSpan X Wd Y) (List.replicate n 0)) w' ∧ Below w.heap.size w w' := by
  have hl2 := Kd.R_below hl (below_alloc (Below.refl _ _) (.cells #[.int .i64 X, .int .i64 Y, .int .i64 Wd, .int .i64 H, .slice none 0 0] 25))
  have hcon := counted_any (cv := .slice none 0 0) rfl hk hn hn2 hH hl2
  have HC := Aside0.mk hcon
  clear hcon hl2 hk hl
  go_enter Try.func18, Try.ntmps18
  go_wp2_with (go_at_call 19; ((with_reducible refine Calls.mono HC.out ?_); rintro e w5 ⟨g, S, rfl, hs5, hc5, hb5⟩; have hfd : (Instr.field 61 (.agg #[.int .i64 0, .slice (some ⟨g, 0, none⟩) n n]) 1).run Try.prog w5 = .ok (.slice (some ⟨g, 0, none⟩) n n) w5 := (by rfl); have HS5 := Aside0.mk hs5; have HC5 := Aside0.mk hc5; have HB5 := Aside0.mk hb5; clear hs5 hc5 hb5))
  go_ret
  exact ⟨g, S, rfl, HS5.out, HC5.out, below_then (below_alloc (Below.refl _ _) _) (by simp) HB5.out⟩
end Go.Proofs.Yteoonjnmghponaa.H
namespace Go.Proofs.Yteoonjnmghponaa.H
open Go.RowKit Go.Proofs.Yteoonjnmghponaa.F Go.Proofs.YteoonjnmghponaaW.PrintWords Go.Proofs.YteoonjnmghponaaW.PrintLast Go.Proofs.YteoonjnmghponaaW.PrintMore
set_option linter.unusedVariables false
set_option linter.unusedSimpArgs false
def inR (z : Int) : Bool := decide (-16777216 ≤ z) && decide (z ≤ 16777216)
theorem small_num (z : Int) : raster_small.f z = some (inR z) := by
  unfold raster_small.f inR
  by_cases h1 : z ≥ -16777216
  · rw [if_pos h1, decide_eq_true (by omega : -16777216 ≤ z)]
    rfl
  · rw [if_neg h1, decide_eq_false (by omega : ¬ -16777216 ≤ z)]
    rfl
def wdR (s : S30) : Bool := !(inR s.f0 && inR s.f1)
theorem r1_step {k : Nat} {x3 : Int} {w : Bool} {x9 : List (List S30)} {x10 x11 : Int} {c : List S30} {i : Int} (h0 : 0 ≤ i) (h1 : i < c.length) :
    raster_check.l1 (k + 1) x3 w x9 x10 x11 c c.length i = raster_check.l1 k x3 (w || wdR (rd_T30 c i)) x9 x10 x11 c c.length (wrap64 (i + 1)) := by
  generalize hs : rd_T30 c i = s
  simp only [raster_check.l1, small_num, Option.bind_some, hs]
  rw [if_pos h1, if_pos h0, if_pos h1]
  unfold wdR
  cases w <;> cases inR s.f0 <;> cases inR s.f1 <;> simp
theorem r1_end {k : Nat} {x3 : Int} {x9 : List (List S30)} {x10 x11 : Int} {c : List S30} (hc : c.length < 4000000000000) :
    ∀ (m : Nat) (i : Int) (w : Bool), 0 ≤ i → i ≤ c.length → (c.length - i).toNat = m →
    raster_check.l1 (k + m + 1) x3 w x9 x10 x11 c c.length i = raster_check.l0 k x3 (w || (c.drop i.toNat).any wdR) x9 x10 (wrap64 (x11 + 1)) := by
  intro m
  induction m with
  | zero =>
    intro i w h0 h1 hm
    have hi : i.toNat = c.length := by omega
    rw [hi, List.drop_length]
    simp only [raster_check.l1, List.any_nil, Bool.or_false]
    rw [if_neg (by omega)]
  | succ m ih =>
    intro i w h0 h1 hm
    have hw : wrap64 (i + 1) = i + 1 := by unfold wrap64; omega
    have hi : i.toNat < c.length := by omega
    have hr : rd_T30 c i = c[i.toNat] := by
      unfold rd_T30
      rw [List.getD_eq_getElem?_getD, List.getElem?_eq_getElem hi]
      rfl
    rw [show k + (m + 1) + 1 = (k + m + 1) + 1 by omega, r1_step h0 (by omega), hw, ih (i + 1) _ (by omega) (by omega) (by omega), hr, show (i + 1).toNat = i.toNat + 1 by omega, List.drop_eq_getElem_cons hi, List.any_cons, Bool.or_assoc]
/-- A polygon that is let in. -/
def SmC (c : List S30) : Prop := ∀ s ∈ c, wdR s = false
theorem SmC.num {c : List S30} (h : SmC c) : ∀ s ∈ c, (-16777216 ≤ s.f0 ∧ s.f0 ≤ 16777216) ∧ -16777216 ≤ s.f1 ∧ s.f1 ≤ 16777216 := fun s hs => by
  have := h s hs
  simp [wdR, inR] at this
  omega
theorem r0_end {xs : List (List S30)} (hx : ∀ c ∈ xs, c.length ≤ 70000) (hl : xs.length ≤ 256) :
    ∀ (m : Nat) (i n : Int) (w : Bool), 0 ≤ i → i ≤ xs.length → (xs.length - i).toNat = m → 0 ≤ n → n ≤ 70000 * i →
    ∃ k r, raster_check.l0 k n w xs xs.length i = some r ∧ (r = 0 ∨ r = 213 ∨ r = 214) ∧ (r = 0 → w = false ∧ ∀ c ∈ xs.drop i.toNat, SmC c) := by
  intro m
  induction m with
  | zero =>
    intro i n w h0 h1 hm hn hn2
    have hi : i.toNat = xs.length := by omega
    refine ⟨1, if n > 16384 then 213 else if w = true then 214 else 0, ?_, ?_, ?_⟩
    · simp only [raster_check.l0]
      rw [if_neg (by omega)]
      by_cases c1 : n > 16384
      · rw [if_pos c1, if_pos c1]
      · rw [if_neg c1, if_neg c1]
        cases w <;> rfl
    · by_cases c1 : n > 16384
      · rw [if_pos c1]
        exact .inr (.inl rfl)
      · rw [if_neg c1]
        cases w
        · exact .inl rfl
        · exact .inr (.inr rfl)
    rw [hi, List.drop_length]
    intro h
    by_cases c1 : n > 16384
    · rw [if_pos c1] at h
      cases h
    · cases w <;> simp [c1] at h ⊢
  | succ m ih =>
    intro i n w h0 h1 hm hn hn2
    have hi : i.toNat < xs.length := by omega
    have hr : rd_L2 xs i = xs[i.toNat] := by
      unfold rd_L2
      rw [List.getD_eq_getElem?_getD, List.getElem?_eq_getElem hi]
      rfl
    have hcl := hx _ (List.getElem_mem hi)
    have hw : wrap64 (n + (xs[i.toNat].length : Int)) = n + xs[i.toNat].length := by unfold wrap64; omega
    have hw1 : wrap64 (i + 1) = i + 1 := by unfold wrap64; omega
    obtain ⟨k, r, h2, h2b, h3⟩ := ih (i + 1) (n + xs[i.toNat].length) (w || xs[i.toNat].any wdR) (by omega) (by omega) (by omega) (by omega) (by omega)
    refine ⟨k + xs[i.toNat].length + 2, r, ?_, h2b, fun h => ?_⟩
    · rw [show k + xs[i.toNat].length + 2 = (k + xs[i.toNat].length + 1) + 1 by omega]
      simp only [raster_check.l0]
      rw [if_pos (by omega), if_pos h0, if_pos (by omega), hr, hw]
      have := r1_end (c := xs[i.toNat]) (k := k) (x9 := xs) (x3 := n + xs[i.toNat].length) (x10 := xs.length) (x11 := i) (by omega) xs[i.toNat].length 0 w (by omega) (by omega) (by omega)
      rw [this, hw1]
      simpa using h2
    · obtain ⟨a1, a2⟩ := h3 h
      simp only [Bool.or_eq_false_iff] at a1
      refine ⟨a1.1, fun c hc => ?_⟩
      rw [List.drop_eq_getElem_cons hi] at hc
      rcases List.mem_cons.1 hc with h | h
      · rw [h]
        intro s hs
        have := List.any_eq_false.1 a1.2 s hs
        simpa using this
      · exact a2 c (by rw [show (i + 1).toNat = i.toNat + 1 by omega]; exact h)
theorem rcheck_ok {xs : List (List S30)} (hx : ∀ c ∈ xs, c.length ≤ 70000) (hl : xs.length ≤ 256) : ∃ k r, raster_check.f k xs = some r ∧ (r = 0 ∨ r = 213 ∨ r = 214) ∧ (r = 0 → ∀ c ∈ xs, SmC c) := by
  obtain ⟨k, r, h1, h2, h3⟩ := r0_end hx hl xs.length 0 0 false (by omega) (by omega) (by omega) (by omega) (by omega)
  exact ⟨k, r, h1, h2, fun h => by simpa using (h3 h).2⟩
/-! ### the box of polygons -/
theorem row30_in {L : Bx} : ∀ (c : List S30) (o : Option Bx), (∀ s ∈ c, InS L s.f0 s.f1) → (∀ b, o = some b → L.x0 ≤ b.x0 ∧ L.y0 ≤ b.y0 ∧ b.x1 ≤ L.x1 ∧ b.y1 ≤ L.y1) → ∀ b, row30 c o = some b → L.x0 ≤ b.x0 ∧ L.y0 ≤ b.y0 ∧ b.x1 ≤ L.x1 ∧ b.y1 ≤ L.y1
  | [], o, _, h, b, hb => h b hb
  | s :: r, o, hs, h, b, hb => by
    refine row30_in r (addB o s.f0 s.f1) (fun t ht => hs t (List.mem_cons_of_mem _ ht)) (fun b' hb' => ?_) b hb
    have hi := hs s (List.mem_cons_self ..)
    unfold InS at hi
    cases o with
    | none =>
      injection hb' with hb'
      subst hb'
      exact ⟨hi.1, hi.2.2.1, hi.2.1, hi.2.2.2⟩
    | some B =>
      injection hb' with hb'
      subst hb'
      have := h B rfl
      simp only [mn, mx]
      refine ⟨?_, ?_, ?_, ?_⟩ <;> (try split) <;> omega
theorem all30_in {L : Bx} : ∀ (xs : List (List S30)) (o : Option Bx), (∀ c ∈ xs, ∀ s ∈ c, InS L s.f0 s.f1) → (∀ b, o = some b → L.x0 ≤ b.x0 ∧ L.y0 ≤ b.y0 ∧ b.x1 ≤ L.x1 ∧ b.y1 ≤ L.y1) → ∀ b, all30 xs o = some b → L.x0 ≤ b.x0 ∧ L.y0 ≤ b.y0 ∧ b.x1 ≤ L.x1 ∧ b.y1 ≤ L.y1
  | [], o, _, h, b, hb => h b hb
  | c :: r, o, hs, h, b, hb => all30_in r (row30 c o) (fun t ht => hs t (List.mem_cons_of_mem _ ht)) (row30_in c o (hs c (List.mem_cons_self ..)) h) b hb
theorem row30_holds : ∀ (c : List S30) (o : Option Bx) (b : Bx), row30 c o = some b → (∀ s ∈ c, InS b s.f0 s.f1) ∧ ∀ b0, o = some b0 → b.x0 ≤ b0.x0 ∧ b.y0 ≤ b0.y0 ∧ b0.x1 ≤ b.x1 ∧ b0.y1 ≤ b.y1
  | [], o, b, hb => ⟨by simp, fun b0 h0 => by
      have : o = some b := hb
      rw [this] at h0
      injection h0 with h0
      subst h0
      exact ⟨Int.le_refl _, Int.le_refl _, Int.le_refl _, Int.le_refl _⟩⟩
  | s :: r, o, b, hb => by
    obtain ⟨h1, h2⟩ := row30_holds r (addB o s.f0 s.f1) b hb
    cases o with
    | none =>
      have h3 := h2 ⟨s.f0, s.f1, s.f0, s.f1⟩ rfl
      refine ⟨fun t ht => ?_, by simp⟩
      rcases List.mem_cons.1 ht with rfl | ht
      · unfold InS
        dsimp only at h3
        omega
      · exact h1 t ht
    | some B =>
      have h3 := h2 ⟨mn B.x0 s.f0, mn B.y0 s.f1, mx B.x1 s.f0, mx B.y1 s.f1⟩ rfl
      simp only [mn, mx] at h3
      obtain ⟨a1, a2, a3, a4⟩ := h3
      have b1 : b.x0 ≤ B.x0 ∧ b.x0 ≤ s.f0 := by split at a1 <;> omega
      have b2 : b.y0 ≤ B.y0 ∧ b.y0 ≤ s.f1 := by split at a2 <;> omega
      have b3 : B.x1 ≤ b.x1 ∧ s.f0 ≤ b.x1 := by split at a3 <;> omega
      have b4 : B.y1 ≤ b.y1 ∧ s.f1 ≤ b.y1 := by split at a4 <;> omega
      refine ⟨fun t ht => ?_, fun b0 h0 => ?_⟩
      · rcases List.mem_cons.1 ht with rfl | ht
        · unfold InS
          omega
        · exact h1 t ht
      · injection h0 with h0
        subst h0
        omega
theorem all30_holds : ∀ (xs : List (List S30)) (o : Option Bx) (b : Bx), all30 xs o = some b → (∀ c ∈ xs, ∀ s ∈ c, InS b s.f0 s.f1) ∧ ∀ b0, o = some b0 → b.x0 ≤ b0.x0 ∧ b.y0 ≤ b0.y0 ∧ b0.x1 ≤ b.x1 ∧ b0.y1 ≤ b.y1
  | [], o, b, hb => ⟨by simp, (row30_holds [] o b hb).2⟩
  | c :: r, o, b, hb => by
    obtain ⟨h1, h2⟩ := all30_holds r (row30 c o) b hb
    have hsub : ∀ B', row30 c o = some B' → (∀ s ∈ c, InS B' s.f0 s.f1) ∧ ∀ b0, o = some b0 → B'.x0 ≤ b0.x0 ∧ B'.y0 ≤ b0.y0 ∧ b0.x1 ≤ B'.x1 ∧ b0.y1 ≤ B'.y1 := fun B' h => row30_holds c o B' h
    cases hq : row30 c o with
    | none =>
      have hc : c = [] ∧ o = none := by
        cases c with
        | nil => exact ⟨rfl, hq⟩
        | cons s t =>
          exfalso
          have : ∀ (t : List S30) (B : Bx), row30 t (some B) ≠ none := by
            intro t
            induction t with
            | nil => intro B h; cases h
            | cons u v ih => intro B; exact ih _
          cases o with
          | none => exact this t _ hq
          | some B => exact this t _ hq
      obtain ⟨rfl, rfl⟩ := hc
      refine ⟨fun d hd => ?_, by simp⟩
      rcases List.mem_cons.1 hd with rfl | hd
      · simp
      · exact h1 d hd
    | some B' =>
      obtain ⟨h3, h4⟩ := hsub B' hq
      have h5 := h2 B' hq
      refine ⟨fun d hd => ?_, fun b0 h0 => ?_⟩
      · rcases List.mem_cons.1 hd with rfl | hd
        · intro s hs
          have := h3 s hs
          unfold InS at *
          omega
        · exact h1 d hd
      · have := h4 b0 h0
        omega
def BxUp (b : Bx) : Prop := b.x0 ≤ b.x1 ∧ b.y0 ≤ b.y1
theorem addB_up {o : Option Bx} {x y : Int} (h : ∀ b, o = some b → BxUp b) : ∀ b, addB o x y = some b → BxUp b := by
  intro b hb
  cases o with
  | none =>
    injection hb with hb
    subst hb
    exact ⟨Int.le_refl _, Int.le_refl _⟩
  | some B =>
    injection hb with hb
    subst hb
    have := h B rfl
    unfold BxUp at *
    simp only [mn, mx]
    constructor <;> (repeat' split) <;> omega
theorem row30_up : ∀ (c : List S30) (o : Option Bx), (∀ b, o = some b → BxUp b) → ∀ b, row30 c o = some b → BxUp b
  | [], o, h => h
  | s :: r, o, h => row30_up r (addB o s.f0 s.f1) (addB_up h)
theorem all30_up : ∀ (xs : List (List S30)) (o : Option Bx), (∀ b, o = some b → BxUp b) → ∀ b, all30 xs o = some b → BxUp b
  | [], o, h => h
  | c :: r, o, h => all30_up r (row30 c o) (row30_up c o h)
end Go.Proofs.Yteoonjnmghponaa.H
