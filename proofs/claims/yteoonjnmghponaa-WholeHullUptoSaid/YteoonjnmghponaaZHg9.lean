/- Package raster: masked, over the function of Fill, walked. -/
import Derived.Test.YteoonjnmghponaaZHgc
namespace Go.Proofs.Yteoonjnmghponaa.H
open Go.RowKit Go.Proofs.Yteoonjnmghponaa.F Go.Proofs.YteoonjnmghponaaW.PrintWords Go.Proofs.YteoonjnmghponaaW.PrintLast Go.Proofs.YteoonjnmghponaaW.PrintMore
set_option linter.unusedVariables false
set_option linter.unusedSimpArgs false
def mask11T : Bool × List (List Nat × List Nat) := (true, [([], []), ([], []), ([1], [1]), ([], []), ([0, 2, 3, 2], [0, 2, 3]), ([4], [4]), ([], [])])
def mask11B : List Nat := [0, 0, 2, 0, 15, 31, 0]
theorem mask11tab : rtab .any (opsOf Try.f17 11) = mask11T := by kernel_rfl
theorem mask11bits : waitsOk mask11T.2 mask11B = true := by kernel_rfl
def mask14T : Bool × List (List Nat × List Nat) := (true, [([], []), ([0], [0]), ([], []), ([2], [2]), ([3], [3]), ([1, 4, 3], [1, 4]), ([0, 1, 2, 3, 4, 5], []), ([6, 5, 5, 0, 1, 2, 3, 4, 5], [5, 6])])
def mask14B : List Nat := [0, 1, 0, 4, 12, 31, 0, 127]
theorem mask14tab : rtab .any (opsOf Try.f17 14) = mask14T := by kernel_rfl
theorem mask14bits : waitsOk mask14T.2 mask14B = true := by kernel_rfl

theorem infoU8 : (Try.prog.info? 5).map (fun i => (i.zero, i.size, i.bytes)) = some (some (.int .u8 0), 1, 1) := by kernel_rfl
def alphaF (n : Int) : Int := (((255 * (mn (mx n 0) 4096)) + 2048) / 4096) % 256
def zeroM : Value := .agg #[.int .i64 0, .int .i64 0, .int .i64 0, .int .i64 0, .slice none 0 0]
/-- The numbers of a mask. -/
def mX (b : Bx) : Int := b.x0 / 64
def mY (b : Bx) : Int := b.y0 / 64
def mW (b : Bx) : Int := b.x1 / 64 - b.x0 / 64 + 1
def mH (b : Bx) : Int := b.y1 / 64 - b.y0 / 64 + 1
/-- The cover of polygons: what the spans of their rows lay. -/
def Cov8 (xs : List (List S30)) (b : Bx) (cov : List Int) : Prop := ∃ (l : List S137) (S : List (Int × Int × Int)) (n : Nat), l.Perm (edgesOf xs []) ∧ l.Pairwise (fun a b => a.f1 ≤ b.f1) ∧ (n : Int) = mW b * mH b ∧ RowsS l (64 * mY b) (64 * (mY b + mH b)) S ∧ cov = (S.foldl (addSpan (mX b) (mW b) (mY b)) (List.replicate n 0)).map alphaF
/-- What masked hands back. -/
def MaskE (w : World) (xs : List (List S30)) (r0 : Int) (e : Ending) (w' : World) : Prop := Below w.heap.size w w' ∧
  ((∃ r, (r = 213 ∨ r = 214) ∧ (r0 ≠ 0 ∨ ∃ b, all30 xs none = some b ∧ (512 < mW b ∨ 512 < mH b)) ∧ e = .returned (.tuple #[zeroM, .int .i64 r])) ∨
   (r0 = 0 ∧ all30 xs none = none ∧ e = .returned (.tuple #[zeroM, .int .i64 0])) ∨
   (r0 = 0 ∧ ∃ b A c cov, all30 xs none = some b ∧ mW b ≤ 512 ∧ mH b ≤ 512 ∧ (cov.length : Int) = mW b * mH b ∧ Kd.R (Kd.int .u8) 5 w' w.heap.size (fun _ => True) (.slice A cov.length c) cov ∧ Cov8 xs b cov ∧ e = .returned (.tuple #[.agg #[.int .i64 (mX b), .int .i64 (mY b), .int .i64 (mW b), .int .i64 (mH b), .slice A cov.length c], .int .i64 0])))
section
variable {P : Program} {Q : Exit → Act → World → Prop} {ops : Array Oper}
/-- A call of a function value that holds nothing, by its contract. -/
theorem goesV_ {oi : Oper} {N : Option Tmp} {a : Act} {w : World} {K : Act → World → Prop} {f : FuncId} {fn : Func} {xs_ : Array Operand} {ts : Array TypeId} (x : Operand) (hf : P.funcs[f]? = some fn) (hname : (fn.name == "runtime.NumGoroutine") = false) (hb : fn.body.isSome = true) (args : Array Value)
    (hw : Region.wanted oi (yielded ops a.tmps) = true) (hN : oi.dst = N) (hop : oi.op = .call { callee := .value x, args := xs_, argTypes := ts }) (hx : a.eval x = .func (.func f) #[] #[]) (hargs : xs_.map a.eval = args)
    (h : Calls P f args w fun e w' => ∃ v, e = .returned v ∧ K (a.put N v) w') : if Region.wanted oi (yielded ops a.tmps) = true then Oper.wp P oi a w K Q else K (a.put N undef) w := by
  refine call_ f args hw hN ?_ h
  have he := enters_ hf hname hb args w
  unfold execOp
  simp [hop, hx, resolve, Deferred.ofValue, invoke, hargs, he]
end
theorem w64_sub1 (a : Int) (h : -1000000000000 ≤ a ∧ a ≤ 1000000000000) : wrap64 (wrap64 a + 1) = a + 1 := by
  rw [IntWalk.wrap64_in a (by omega), IntWalk.wrap64_in _ (by omega)]
theorem put5 {W : World} {g : Nat} {t : TypeId} {a0 a1 a2 a3 a4 : Value} (h : W.heap[g]? = some (.cells #[a0, a1, a2, a3, a4] t (0, 0))) (m0 m1 m2 m3 m4 : Value) :
    (((((W.setCell ⟨g, 0, none⟩ m0).setCell ⟨g, 1, none⟩ m1).setCell ⟨g, 2, none⟩ m2).setCell ⟨g, 3, none⟩ m3).setCell ⟨g, 4, none⟩ m4).heap[g]? = some (.cells #[m0, m1, m2, m3, m4] t (0, 0)) :=
  blk_put (cs := #[m0, m1, m2, m3, a4]) (blk_put (cs := #[m0, m1, m2, a3, a4]) (blk_put (cs := #[m0, m1, a2, a3, a4]) (blk_put (cs := #[m0, a1, a2, a3, a4]) (blk_put h 0 m0 rfl) 1 m1 rfl) 2 m2 rfl) 3 m3 rfl) 4 m4 rfl
theorem below5 {w W : World} {g : Nat} (h : Below w.heap.size w W) (hg : w.heap.size ≤ g) (m0 m1 m2 m3 m4 : Value) :
    Below w.heap.size w (((((W.setCell ⟨g, 0, none⟩ m0).setCell ⟨g, 1, none⟩ m1).setCell ⟨g, 2, none⟩ m2).setCell ⟨g, 3, none⟩ m3).setCell ⟨g, 4, none⟩ m4) :=
  ((((h.setCell (p := ⟨g, 0, none⟩) hg _).setCell (p := ⟨g, 1, none⟩) hg _).setCell (p := ⟨g, 2, none⟩) hg _).setCell (p := ⟨g, 3, none⟩) hg _).setCell (p := ⟨g, 4, none⟩) hg _
theorem grown1 (W : World) (g j : Nat) (u : Value) : W.grownBy (W.setCell ⟨g, j, none⟩ u) (some g) :=
  ⟨rfl, rfl, rfl, by simp [World.setCell], fun k hk hn => Below.heap_setCell W ⟨g, j, none⟩ u k (fun e => hn (by rw [e]))⟩
theorem grown5 {W : World} {g : Nat} (m0 m1 m2 m3 m4 : Value) : W.grownBy (((((W.setCell ⟨g, 0, none⟩ m0).setCell ⟨g, 1, none⟩ m1).setCell ⟨g, 2, none⟩ m2).setCell ⟨g, 3, none⟩ m3).setCell ⟨g, 4, none⟩ m4) (some g) :=
  gb_trans (gb_trans (gb_trans (gb_trans (grown1 _ g 0 m0) (grown1 _ g 1 m1)) (grown1 _ g 2 m2)) (grown1 _ g 3 m3)) (grown1 _ g 4 m4)
set_option maxHeartbeats 8000000 in
set_option maxRecDepth 100000 in
theorem masked_any {w : World} {A : Option Addr} {c k : Nat} {xs : List (List S30)} {r0 : Int} (hC : Kd.C (Kd.slice 30 k30) w A xs.length xs) (hc : xs.length ≤ c) (hl : xs.length ≤ 256) (hx : ∀ c ∈ xs, c.length ≤ 70000) (hr : raster_check.f k xs = some r0) (hr1 : r0 = 0 ∨ r0 = 213 ∨ r0 = 214) (hr2 : r0 = 0 → ∀ c ∈ xs, SmC c) :
    Calls Try.prog 17 #[.slice A xs.length c, .func (.func 18) #[] #[]] w (MaskE w xs r0) := by
  have HC := Aside0.mk hC
  have HX := Aside0.mk hx
  have hb1 := below_alloc (Below.refl w.heap.size w) (.cells #[.int .i64 0, .int .i64 0, .int .i64 0, .int .i64 0, .slice none 0 0] 25)
  have HB1 := Aside0.mk hb1
  have hchk := raster_check.calls k A c xs r0 (w.alloc (.cells #[.int .i64 0, .int .i64 0, .int .i64 0, .int .i64 0, .slice none 0 0] 25)) (Kd.C_below hC hb1) hc hr
  have HCK := Aside0.mk hchk
  have B4 := Aside0.mk (blk_new w (.cells #[.int .i64 0, .int .i64 0, .int .i64 0, .int .i64 0, .slice none 0 0] 25))
  clear hC hx hb1 hchk
  go_enter Try.func17, Try.ntmps17
  go_upto_region 1 with fail
  generalize w.alloc (.cells #[.int .i64 0, .int .i64 0, .int .i64 0, .int .i64 0, .slice none 0 0] 25) = V at *
  obtain ⟨g4, hg4⟩ : ∃ g, g = w.heap.size := ⟨_, rfl⟩
  rw [← hg4] at B4 ⊢
  have HG4 := Aside0.mk hg4
  clear hg4
  by_cases hr0 : r0 = 0
  · subst hr0
    have hbnd := fun W (hW : Below V.heap.size V W) => bounds_any (c := c) (Kd.C_below (Kd.C_below HC.out HB1.out) hW) (by omega) (fun c hc => by have := HX.out c hc; omega)
    obtain ⟨o, ho⟩ : ∃ o, o = all30 xs none := ⟨_, rfl⟩
    rw [← ho] at hbnd
    have HO := Aside0.mk ho
    have HBN := Aside0.mk hbnd
    clear ho hbnd
    go_upto_region 4 with (go_at_call 41; ((with_reducible refine Calls.mono HCK.out ?_); rintro e w2 ⟨rfl, hb2⟩; have HV2 := Aside0.mk hb2; have HB2 := Aside0.mk (below_then HB1.out HB1.out.size hb2); have b42 := Aside0.mk (blk_below B4.out hb2); clear hb2))
    cases o with
    | none =>
      have hbn : Calls Try.prog 42 #[.slice A xs.length c] w2 fun e w' => e = .returned (.tuple #[.agg #[.int .i64 0, .int .i64 0, .int .i64 0, .int .i64 0], .bool false]) ∧ Below w2.heap.size w2 w' := HBN.out w2 HV2.out
      have HBN2 := Aside0.mk hbn
      clear hbn HBN
      go_upto_region 6 with (go_at_call 42; ((with_reducible refine Calls.mono HBN2.out ?_); rintro e w3 ⟨rfl, hb3⟩; have HB3 := Aside0.mk (below_then HB2.out HB2.out.size hb3); have b43 := Aside0.mk (blk_below b42.out hb3); clear hb3))
      have hb7 := below_alloc (Below.refl w3.heap.size w3) (.cells #[.int .i64 0, .int .i64 0, .int .i64 0, .int .i64 0] 37)
      have HB7 := Aside0.mk (below_then HB3.out HB3.out.size hb7)
      have b47 := blk_below b43.out hb7
      clear hb7
      generalize w3.alloc (.cells #[.int .i64 0, .int .i64 0, .int .i64 0, .int .i64 0] 37) = w7 at *
      have f0 := blk_frozen b47 0
      have f1 := blk_frozen b47 1
      have f2 := blk_frozen b47 2
      have f3 := blk_frozen b47 3
      have f4 := blk_frozen b47 4
      have c0 : w7.cell? ⟨g4, 0, none⟩ = some (.int .i64 0) := (blk_cell b47 0).trans rfl
      have c1 : w7.cell? ⟨g4, 1, none⟩ = some (.int .i64 0) := (blk_cell b47 1).trans rfl
      have c2 : w7.cell? ⟨g4, 2, none⟩ = some (.int .i64 0) := (blk_cell b47 2).trans rfl
      have c3 : w7.cell? ⟨g4, 3, none⟩ = some (.int .i64 0) := (blk_cell b47 3).trans rfl
      have c4 : w7.cell? ⟨g4, 4, none⟩ = some (.slice none 0 0) := (blk_cell b47 4).trans rfl
      have HB47 := Aside0.mk b47
      clear b47
      go_wp2
      obtain ⟨wz, hwz⟩ : ∃ wz, wz = (((((w7.setCell ⟨g4, 0, none⟩ (.int .i64 0)).setCell ⟨g4, 1, none⟩ (.int .i64 0)).setCell ⟨g4, 2, none⟩ (.int .i64 0)).setCell ⟨g4, 3, none⟩ (.int .i64 0)).setCell ⟨g4, 4, none⟩ (.slice none 0 0)) := ⟨_, rfl⟩
      have hbz := put5 HB47.out (.int .i64 0) (.int .i64 0) (.int .i64 0) (.int .i64 0) (.slice none 0 0)
      have hbw := below5 HB7.out (by rw [HG4.out]; exact Nat.le_refl _) (g := g4) (.int .i64 0) (.int .i64 0) (.int .i64 0) (.int .i64 0) (.slice none 0 0)
      rw [← hwz] at hbz hbw
      rw [← hwz]
      have z0 : wz.cell? ⟨g4, 0, none⟩ = some (.int .i64 0) := (blk_cell hbz 0).trans rfl
      have z1 : wz.cell? ⟨g4, 1, none⟩ = some (.int .i64 0) := (blk_cell hbz 1).trans rfl
      have z2 : wz.cell? ⟨g4, 2, none⟩ = some (.int .i64 0) := (blk_cell hbz 2).trans rfl
      have z3 : wz.cell? ⟨g4, 3, none⟩ = some (.int .i64 0) := (blk_cell hbz 3).trans rfl
      have z4 : wz.cell? ⟨g4, 4, none⟩ = some (.slice none 0 0) := (blk_cell hbz 4).trans rfl
      clear hwz hbz c0 c1 c2 c3 c4 f0 f1 f2 f3 f4
      refine bodyPost_ret (v := .tuple #[zeroM, .int .i64 0]) (by simp [zeroM, results, Try.results17, go_sem, z0, z1, z2, z3, z4]) rfl ⟨hbw, .inr (.inl ⟨rfl, HO.out.symm, rfl⟩)⟩
    | some b =>
      obtain ⟨x0, y0, x1, y1⟩ := b
      have hbn : Calls Try.prog 42 #[.slice A xs.length c] w2 fun e w' => e = .returned (.tuple #[.agg #[.int .i64 x0, .int .i64 y0, .int .i64 x1, .int .i64 y1], .bool true]) ∧ Below w2.heap.size w2 w' := HBN.out w2 HV2.out
      have HBN2 := Aside0.mk hbn
      have hin := all30_in (L := ⟨-16777216, -16777216, 16777216, 16777216⟩) xs none (fun c hc s hs => by have := (hr2 (by simp) c hc).num s hs; unfold InS; dsimp only; omega) (by simp) _ HO.out.symm
      dsimp only at hin
      have hup := all30_up xs none (by simp) _ HO.out.symm
      unfold BxUp at hup
      dsimp only at hup
      clear hbn HBN
      go_upto_region 7 with (go_at_call 42; ((with_reducible refine Calls.mono HBN2.out ?_); rintro e w3 ⟨rfl, hb3⟩; have HB3 := Aside0.mk (below_then HB2.out HB2.out.size hb3); have b43 := Aside0.mk (blk_below b42.out hb3); clear hb3))
      have hb7 := below_alloc (Below.refl w3.heap.size w3) (.cells #[.int .i64 x0, .int .i64 y0, .int .i64 x1, .int .i64 y1] 37)
      have HB7 := Aside0.mk (below_then HB3.out HB3.out.size hb7)
      have b47 := Aside0.mk (blk_below b43.out hb7)
      have b77 := Aside0.mk (blk_new w3 (.cells #[.int .i64 x0, .int .i64 y0, .int .i64 x1, .int .i64 y1] 37))
      have HG7 : Aside0 (w.heap.size ≤ w3.heap.size) := ⟨HB3.out.size⟩
      have hg7 : w3.heap.size < (w3.alloc (.cells #[.int .i64 x0, .int .i64 y0, .int .i64 x1, .int .i64 y1] 37)).heap.size := by simp
      clear hb7
      generalize w3.alloc (.cells #[.int .i64 x0, .int .i64 y0, .int .i64 x1, .int .i64 y1] 37) = w7 at *
      generalize w3.heap.size = g7 at *
      have k0 : w7.cell? ⟨g7, 0, none⟩ = some (.int .i64 x0) := (blk_cell b77.out 0).trans rfl
      have k1 : w7.cell? ⟨g7, 1, none⟩ = some (.int .i64 y0) := (blk_cell b77.out 1).trans rfl
      go_upto_region 8 with fail
      have hb9 := below_alloc (Below.refl w7.heap.size w7) (.cells #[.int .i64 (x0 / 64), .int .i64 (y0 / 64), .int .i64 0, .int .i64 0, .slice none 0 0] 25)
      have HB9 := Aside0.mk (below_then HB7.out HB7.out.size hb9)
      have b49 := Aside0.mk (blk_below b47.out hb9)
      have b79 := Aside0.mk (blk_below b77.out hb9)
      have b99 := Aside0.mk (blk_new w7 (.cells #[.int .i64 (x0 / 64), .int .i64 (y0 / 64), .int .i64 0, .int .i64 0, .slice none 0 0] 25))
      have HG9 : Aside0 (w.heap.size ≤ w7.heap.size ∧ g4 < w7.heap.size) := ⟨HB7.out.size, blk_lt b47.out⟩
      clear hb9 k0 k1 HB7 b47 b77
      generalize w7.alloc (.cells #[.int .i64 (x0 / 64), .int .i64 (y0 / 64), .int .i64 0, .int .i64 0, .slice none 0 0] 25) = w9 at *
      generalize w7.heap.size = g9 at *
      have k2 : w9.cell? ⟨g7, 2, none⟩ = some (.int .i64 x1) := (blk_cell b79.out 2).trans rfl
      have k3 : w9.cell? ⟨g7, 3, none⟩ = some (.int .i64 y1) := (blk_cell b79.out 3).trans rfl
      have m0 : w9.cell? ⟨g9, 0, none⟩ = some (.int .i64 (x0 / 64)) := (blk_cell b99.out 0).trans rfl
      have m1 : w9.cell? ⟨g9, 1, none⟩ = some (.int .i64 (y0 / 64)) := (blk_cell b99.out 1).trans rfl
      have m2 : w9.cell? ⟨g9, 2, none⟩ = some (.int .i64 0) := (blk_cell b99.out 2).trans rfl
      have m3 : w9.cell? ⟨g9, 3, none⟩ = some (.int .i64 0) := (blk_cell b99.out 3).trans rfl
      have f2 := blk_frozen b99.out 2
      have f3 := blk_frozen b99.out 3
      go_cut [] from 33 to 48 (fun wx => Aside0 (Below w.heap.size w wx) ∧ Aside0 (wx.heap[g9]? = some (.cells #[.int .i64 (x0 / 64), .int .i64 (y0 / 64), .int .i64 (x1 / 64 - x0 / 64 + 1), .int .i64 (y1 / 64 - y0 / 64 + 1), .slice none 0 0] 25 (0, 0))) ∧ Aside0 (wx.heap[g4]? = some (.cells #[.int .i64 0, .int .i64 0, .int .i64 0, .int .i64 0, .slice none 0 0] 25 (0, 0))))
      case first =>
        go_region
        have hx2 := ((HB9.out.setCell (p := ⟨g9, 2, none⟩) HG9.out.1 (.int .i64 (x1 / 64 - x0 / 64 + 1))).setCell (p := ⟨g9, 3, none⟩) HG9.out.1 (.int .i64 (y1 / 64 - y0 / 64 + 1))).drew
        have hb2 := blk_put (cs := #[.int .i64 (x0 / 64), .int .i64 (y0 / 64), .int .i64 (x1 / 64 - x0 / 64 + 1), .int .i64 0, .slice none 0 0]) (blk_put b99.out 2 (.int .i64 (x1 / 64 - x0 / 64 + 1)) rfl) 3 (.int .i64 (y1 / 64 - y0 / 64 + 1)) rfl
        have hb4 : ((w9.setCell ⟨g9, 2, none⟩ (.int .i64 (x1 / 64 - x0 / 64 + 1))).setCell ⟨g9, 3, none⟩ (.int .i64 (y1 / 64 - y0 / 64 + 1))).heap[g4]? = some (.cells #[.int .i64 0, .int .i64 0, .int .i64 0, .int .i64 0, .slice none 0 0] 25 (0, 0)) := by
          have := HG9.out.2
          rw [Below.heap_setCell _ _ _ _ (by show g4 ≠ g9; omega), Below.heap_setCell _ _ _ _ (by show g4 ≠ g9; omega)]
          exact b49.out
        have HX2 := Aside0.mk hx2
        have HB2' := Aside0.mk hb2
        have HB4' := Aside0.mk hb4
        clear hx2 hb2 hb4 k2 k3 m0 m1 m2 m3 f2 f3
        generalize (w9.setCell ⟨g9, 2, none⟩ (.int .i64 (x1 / 64 - x0 / 64 + 1))).setCell ⟨g9, 3, none⟩ (.int .i64 (y1 / 64 - y0 / 64 + 1)) = w10 at *
        go_wp2_with fail
        go_meet
        case rel => exact ⟨HX2, ⟨HB2'.out⟩, ⟨HB4'.out⟩⟩
      case rest =>
        clear HB9 b49 b79 b99 k2 k3 m0 m1 m2 m3 f2 f3
        obtain ⟨HB9, b99, b49⟩ := hcut
        obtain ⟨X, hX⟩ : ∃ z, z = x0 / 64 := ⟨_, rfl⟩
        obtain ⟨Y, hY⟩ : ∃ z, z = y0 / 64 := ⟨_, rfl⟩
        obtain ⟨Wd, hWd⟩ : ∃ z, z = x1 / 64 - x0 / 64 + 1 := ⟨_, rfl⟩
        obtain ⟨H, hH⟩ : ∃ z, z = y1 / 64 - y0 / 64 + 1 := ⟨_, rfl⟩
        have hWb : Wd ≤ 1000000 := by omega
        have hHb : H ≤ 1000000 := by omega
        rw [← hWd, ← hH, ← hX, ← hY] at b99
        have EX := Aside0.mk hX
        have EY := Aside0.mk hY
        have EW := Aside0.mk hWd
        have EH := Aside0.mk hH
        clear hX hY hWd hH
        have m2 : wc.cell? ⟨g9, 2, none⟩ = some (.int .i64 Wd) := (blk_cell b99.out 2).trans rfl
        have m3 : wc.cell? ⟨g9, 3, none⟩ = some (.int .i64 H) := (blk_cell b99.out 3).trans rfl
        by_cases hw : 512 < Wd
        · have hwd : decide (512 < Wd) = true := decide_eq_true hw
          have f0 := blk_frozen b49.out 0
          have f1 := blk_frozen b49.out 1
          have f2 := blk_frozen b49.out 2
          have f3 := blk_frozen b49.out 3
          have f4 := blk_frozen b49.out 4
          have c0 : wc.cell? ⟨g4, 0, none⟩ = some (.int .i64 0) := (blk_cell b49.out 0).trans rfl
          have c1 : wc.cell? ⟨g4, 1, none⟩ = some (.int .i64 0) := (blk_cell b49.out 1).trans rfl
          have c2 : wc.cell? ⟨g4, 2, none⟩ = some (.int .i64 0) := (blk_cell b49.out 2).trans rfl
          have c3 : wc.cell? ⟨g4, 3, none⟩ = some (.int .i64 0) := (blk_cell b49.out 3).trans rfl
          have c4 : wc.cell? ⟨g4, 4, none⟩ = some (.slice none 0 0) := (blk_cell b49.out 4).trans rfl
          go_wp2
          obtain ⟨wz, hwz⟩ : ∃ wz, wz = (((((wc.setCell ⟨g4, 0, none⟩ (.int .i64 0)).setCell ⟨g4, 1, none⟩ (.int .i64 0)).setCell ⟨g4, 2, none⟩ (.int .i64 0)).setCell ⟨g4, 3, none⟩ (.int .i64 0)).setCell ⟨g4, 4, none⟩ (.slice none 0 0)) := ⟨_, rfl⟩
          have hbz := put5 b49.out (.int .i64 0) (.int .i64 0) (.int .i64 0) (.int .i64 0) (.slice none 0 0)
          have hbw := below5 HB9.out (by rw [HG4.out]; exact Nat.le_refl _) (g := g4) (.int .i64 0) (.int .i64 0) (.int .i64 0) (.int .i64 0) (.slice none 0 0)
          rw [← hwz] at hbz hbw
          rw [← hwz]
          have z0 : wz.cell? ⟨g4, 0, none⟩ = some (.int .i64 0) := (blk_cell hbz 0).trans rfl
          have z1 : wz.cell? ⟨g4, 1, none⟩ = some (.int .i64 0) := (blk_cell hbz 1).trans rfl
          have z2 : wz.cell? ⟨g4, 2, none⟩ = some (.int .i64 0) := (blk_cell hbz 2).trans rfl
          have z3 : wz.cell? ⟨g4, 3, none⟩ = some (.int .i64 0) := (blk_cell hbz 3).trans rfl
          have z4 : wz.cell? ⟨g4, 4, none⟩ = some (.slice none 0 0) := (blk_cell hbz 4).trans rfl
          clear hwz hbz c0 c1 c2 c3 c4 f0 f1 f2 f3 f4
          refine bodyPost_ret (v := .tuple #[zeroM, .int .i64 213]) (by simp [zeroM, results, Try.results17, go_sem, z0, z1, z2, z3, z4]) rfl ⟨hbw, .inl ⟨213, .inl rfl, .inr ⟨_, HO.out.symm, .inl (by have := EW.out; show 512 < x1 / 64 - x0 / 64 + 1; omega)⟩, rfl⟩⟩
        · have hwd : decide (512 < Wd) = false := decide_eq_false hw
          by_cases hh : 512 < H
          · have hhd : decide (512 < H) = true := decide_eq_true hh
            have f0 := blk_frozen b49.out 0
            have f1 := blk_frozen b49.out 1
            have f2 := blk_frozen b49.out 2
            have f3 := blk_frozen b49.out 3
            have f4 := blk_frozen b49.out 4
            have c0 : wc.cell? ⟨g4, 0, none⟩ = some (.int .i64 0) := (blk_cell b49.out 0).trans rfl
            have c1 : wc.cell? ⟨g4, 1, none⟩ = some (.int .i64 0) := (blk_cell b49.out 1).trans rfl
            have c2 : wc.cell? ⟨g4, 2, none⟩ = some (.int .i64 0) := (blk_cell b49.out 2).trans rfl
            have c3 : wc.cell? ⟨g4, 3, none⟩ = some (.int .i64 0) := (blk_cell b49.out 3).trans rfl
            have c4 : wc.cell? ⟨g4, 4, none⟩ = some (.slice none 0 0) := (blk_cell b49.out 4).trans rfl
            go_wp2
            obtain ⟨wz, hwz⟩ : ∃ wz, wz = (((((wc.setCell ⟨g4, 0, none⟩ (.int .i64 0)).setCell ⟨g4, 1, none⟩ (.int .i64 0)).setCell ⟨g4, 2, none⟩ (.int .i64 0)).setCell ⟨g4, 3, none⟩ (.int .i64 0)).setCell ⟨g4, 4, none⟩ (.slice none 0 0)) := ⟨_, rfl⟩
            have hbz := put5 b49.out (.int .i64 0) (.int .i64 0) (.int .i64 0) (.int .i64 0) (.slice none 0 0)
            have hbw := below5 HB9.out (by rw [HG4.out]; exact Nat.le_refl _) (g := g4) (.int .i64 0) (.int .i64 0) (.int .i64 0) (.int .i64 0) (.slice none 0 0)
            rw [← hwz] at hbz hbw
            rw [← hwz]
            have z0 : wz.cell? ⟨g4, 0, none⟩ = some (.int .i64 0) := (blk_cell hbz 0).trans rfl
            have z1 : wz.cell? ⟨g4, 1, none⟩ = some (.int .i64 0) := (blk_cell hbz 1).trans rfl
            have z2 : wz.cell? ⟨g4, 2, none⟩ = some (.int .i64 0) := (blk_cell hbz 2).trans rfl
            have z3 : wz.cell? ⟨g4, 3, none⟩ = some (.int .i64 0) := (blk_cell hbz 3).trans rfl
            have z4 : wz.cell? ⟨g4, 4, none⟩ = some (.slice none 0 0) := (blk_cell hbz 4).trans rfl
            clear hwz hbz c0 c1 c2 c3 c4 f0 f1 f2 f3 f4
            refine bodyPost_ret (v := .tuple #[zeroM, .int .i64 213]) (by simp [zeroM, results, Try.results17, go_sem, z0, z1, z2, z3, z4]) rfl ⟨hbw, .inl ⟨213, .inl rfl, .inr ⟨_, HO.out.symm, .inr (by have := EH.out; show 512 < y1 / 64 - y0 / 64 + 1; omega)⟩, rfl⟩⟩
          · have hhd : decide (512 < H) = false := decide_eq_false hh
            go_upto_region 11 with fail
            have hX := EX.out
            have hY := EY.out
            have hWd := EW.out
            have hH := EH.out
            obtain ⟨n, hn⟩ : ∃ n : Nat, (n : Int) = Wd * H := ⟨(Wd * H).toNat, Int.toNat_of_nonneg (Int.mul_nonneg (by omega) (by omega))⟩
            have hn2 : n ≤ 262144 := by
              have h1 : Wd * H ≤ 512 * 512 := Int.le_trans (Int.mul_le_mul_of_nonneg_right (by omega) (by omega)) (Int.mul_le_mul_of_nonneg_left (by omega) (by omega))
              omega
            have hbin := (all30_holds xs none _ HO.out.symm).1
            have hE : ∀ W, Below w.heap.size w W → Calls Try.prog 43 #[.slice A xs.length c] W fun e w' => ∃ v l, e = .returned v ∧ k137.R 137 w' W.heap.size (fun _ => True) v l ∧ l.Perm (edgesOf xs []) ∧ l.Pairwise (fun a b => a.f1 ≤ b.f1) ∧ Below W.heap.size W w' :=
              fun W hW => edges_any (B := ⟨x0, y0, x1, y1⟩) (Kd.C_below HC.out hW) hl HX.out hbin (by dsimp only; omega)
            have hRk : ∀ l : List S137, l.Perm (edgesOf xs []) → l.Pairwise (fun a b => a.f1 ≤ b.f1) → Rk l ⟨x0, y0, x1, y1⟩ X Wd Y (64 * Y) (64 * (Y + H)) n := fun l hp hu => ⟨hu, fun j cr h => h.sum hp, fun e he => edges_ok hbin e (hp.mem_iff.1 he), by
              have h1 := hp.length_eq
              have h2 := edges_len (m := 70000) xs [] HX.out
              have h3 : 70000 * xs.length ≤ 70000 * 256 := Nat.mul_le_mul_left _ hl
              simp only [List.length_nil] at h2
              omega, by dsimp only; omega, by dsimp only; omega, by omega, by omega, by dsimp only; omega, by dsimp only; omega, by omega, by omega, fun j h1 h2 => ⟨by omega, by
              have : (j / 64 - Y + 1) * Wd ≤ H * Wd := Int.mul_le_mul_of_nonneg_right (by omega) (by omega)
              rw [Int.mul_comm H Wd] at this
              omega⟩, by omega, by omega⟩
            have hF1 : ∀ (l : List S137) (W : World) (lb c : Nat) (A : Option Addr), l.Perm (edgesOf xs []) → l.Pairwise (fun a b => a.f1 ≤ b.f1) → k137.R 137 W lb (fun _ => True) (.slice A l.length c) l → Calls Try.prog 18 #[.slice A l.length c, .agg #[.int .i64 X, .int .i64 Y, .int .i64 Wd, .int .i64 H, .slice none 0 0]] W fun e w' => ∃ g S, e = .returned (.slice (some ⟨g, 0, none⟩) n n) ∧ RowsS l (64 * Y) (64 * (Y + H)) S ∧ Ct g (S.foldl (addSpan X Wd Y) (List.replicate n 0)) w' ∧ Below W.heap.size W w' :=
              fun l W lb c A hp hu hR => fill1_any (hRk l hp hu) hn hn2 (by omega) hR
            have HE1 := Aside0.mk hE
            have HFL := Aside0.mk hF1
            have HN := Aside0.mk hn
            have m0 : wc.cell? ⟨g9, 0, none⟩ = some (.int .i64 X) := (blk_cell b99.out 0).trans rfl
            have m1 : wc.cell? ⟨g9, 1, none⟩ = some (.int .i64 Y) := (blk_cell b99.out 1).trans rfl
            have m4 : wc.cell? ⟨g9, 4, none⟩ = some (.slice none 0 0) := (blk_cell b99.out 4).trans rfl
            clear hE hF1 hRk hbin HX HC hX hY hWd hH hn
            have HB9d := Aside0.mk (below_drew1 HB9.out)
            have b99d : Aside0 (wc.drew.heap[g9]? = some (.cells #[.int .i64 X, .int .i64 Y, .int .i64 Wd, .int .i64 H, .slice none 0 0] 25 (0, 0))) := ⟨b99.out⟩
            have b49d : Aside0 (wc.drew.heap[g4]? = some (.cells #[.int .i64 0, .int .i64 0, .int .i64 0, .int .i64 0, .slice none 0 0] 25 (0, 0))) := ⟨b49.out⟩
            clear HB9 b99 b49
            refine start_ (n := 7) (S := fun w' => w'.cell? ⟨g9, 0, none⟩ = some (.int .i64 X) ∧ w'.cell? ⟨g9, 1, none⟩ = some (.int .i64 Y) ∧ w'.cell? ⟨g9, 2, none⟩ = some (.int .i64 Wd) ∧ w'.cell? ⟨g9, 3, none⟩ = some (.int .i64 H) ∧ w'.cell? ⟨g9, 4, none⟩ = some (.slice none 0 0)) (ds := []) #[false, false, false, false, false, false, false] (by kernel_rfl) rfl rfl ⟨m0, m1, m2, m3, m4⟩ (fun hHeld => ?_); refine with_tabW mask11tab mask11bits (fun HT_ HW_ => ?_)
            generalize wc.drew = w3 at HB9d b99d b49d hHeld ⊢
            refine pure_ (i := 0) (N := (some 58)) (v := ?_) (a' := ?_) #[true, false, false, false, false, false, false] rfl rfl (any_of HT_.out (by kernel_rfl)) (fun _ _ _ h => h) (Or.inl ⟨by rfl, ?_⟩) ?_ ?_
            rotate_left
            · intro w'
              go_simp
              with_reducible rfl
            rotate_left
            · simp only [Act.put, List.setIfInBounds_toArray, List.set_cons_zero, List.set_cons_succ, i64_w, i32_w]
              rfl
            refine pure_ (i := 1) (N := (some 59)) (v := ?_) (a' := ?_) #[true, true, false, false, false, false, false] rfl rfl (any_of HT_.out (by kernel_rfl)) (fun _ _ _ h => h) (Or.inl ⟨by rfl, ?_⟩) ?_ ?_
            rotate_left
            · intro w'
              go_simp
              with_reducible rfl
            rotate_left
            · simp only [Act.put, List.setIfInBounds_toArray, List.set_cons_zero, List.set_cons_succ, i64_w, i32_w]
              rfl
            refine take_ (i := 3) (N := (some 61)) (v := ?_) (a' := ?_) #[true, true, false, true, false, false, false] rfl rfl (take_ofW HT_.out HW_.out (by kernel_rfl)) (fun _ _ _ h => h) (Or.inl ⟨by rfl, ?_⟩) hHeld ?_ ?_
            rotate_left
            · rintro w' ⟨s0, s1, s2, s3, s4⟩
              go_simp
              with_reducible rfl
            rotate_left
            · simp only [Act.put, List.setIfInBounds_toArray, List.set_cons_zero, List.set_cons_succ, i64_w, i32_w]
              rfl
            refine pure_ (i := 6) (N := (some 64)) (v := ?_) (a' := ?_) #[true, true, false, true, false, false, true] rfl rfl (any_of HT_.out (by kernel_rfl)) (fun _ _ _ h => h) (Or.inl ⟨by rfl, ?_⟩) ?_ ?_
            rotate_left
            · intro w'
              go_simp
              with_reducible rfl
            rotate_left
            · simp only [Act.put, List.setIfInBounds_toArray, List.set_cons_zero, List.set_cons_succ, i64_w, i32_w]
              rfl
            refine one_ (i := 2) (N := (some 60)) #[true, true, true, true, false, false, true] rfl rfl (one_of HT_.out (by kernel_rfl)) (by decide) (fun K hK => ?_)
            refine goes_ Try.func43 (by kernel_rfl) rfl #[.slice A xs.length c] (by rfl) rfl rfl (by (try simp only [List.map_toArray, List.map_cons, List.map_nil]); first | done | rfl) ?_
            with_reducible refine Calls.mono (HE1.out _ HB9d.out) ?_
            rintro e wb ⟨vl, l, rfl, hrl, hpl, hul, hb⟩
            refine ⟨_, rfl, ?_⟩
            obtain ⟨Al, cl, rfl⟩ := Kd.R_slice hrl
            have HRL := Aside0.mk hrl
            have HPL := Aside0.mk hpl
            have HUL := Aside0.mk hul
            have HBb := Aside0.mk (below_then HB9d.out HB9d.out.size hb)
            have b99b := Aside0.mk (blk_below b99d.out hb)
            have b49b := Aside0.mk (blk_below b49d.out hb)
            clear hb hrl hpl hul HB9d b99d b49d
            refine hK.out _ _ ⟨(blk_cell b99b.out 0).trans rfl, (blk_cell b99b.out 1).trans rfl, (blk_cell b99b.out 2).trans rfl, (blk_cell b99b.out 3).trans rfl, (blk_cell b99b.out 4).trans rfl⟩ (fun hHeld => ?_)
            clear hK K
            refine norm_ (a' := ?_) ?_ ?_
            rotate_left
            · show Act.put _ (some 60) _ = _
              simp only [Act.put, List.setIfInBounds_toArray, List.set_cons_zero, List.set_cons_succ, i64_w, i32_w]
              rfl
            refine one_ (i := 4) (N := (some 62)) #[true, true, true, true, true, false, true] rfl rfl (one_of HT_.out (by kernel_rfl)) (by decide) (fun K hK => ?_)
            refine goesV_ (.tmp 58) Try.func18 (by kernel_rfl) rfl #[.slice Al l.length cl, .agg #[.int .i64 X, .int .i64 Y, .int .i64 Wd, .int .i64 H, .slice none 0 0]] (by rfl) rfl rfl (by rfl) (by (try simp only [List.map_toArray, List.map_cons, List.map_nil]); first | done | rfl) ?_
            with_reducible refine Calls.mono (HFL.out l _ _ cl Al HPL.out HUL.out HRL.out) ?_
            rintro e wf ⟨g, S, rfl, hs, hct, hb⟩
            refine ⟨_, rfl, ?_⟩
            have HS := Aside0.mk hs
            have HCT := Aside0.mk hct
            have HBf := Aside0.mk (below_then HBb.out HBb.out.size hb)
            have b99f := Aside0.mk (blk_below b99b.out hb)
            have b49f := Aside0.mk (blk_below b49b.out hb)
            clear hb hs hct HBb b99b b49b
            refine hK.out _ _ ⟨(blk_cell b99f.out 0).trans rfl, (blk_cell b99f.out 1).trans rfl, (blk_cell b99f.out 2).trans rfl, (blk_cell b99f.out 3).trans rfl, (blk_cell b99f.out 4).trans rfl⟩ (fun hHeld => ?_)
            clear hK K
            refine norm_ (a' := ?_) ?_ ?_
            rotate_left
            · show Act.put _ (some 62) _ = _
              simp only [Act.put, List.setIfInBounds_toArray, List.set_cons_zero, List.set_cons_succ, i64_w, i32_w]
              rfl
            refine pure_ (i := 5) (N := (some 63)) (v := ?_) (a' := ?_) #[true, true, true, true, true, true, true] rfl rfl (any_of HT_.out (by kernel_rfl)) (fun _ _ _ h => h) (Or.inl ⟨by rfl, ?_⟩) ?_ ?_
            rotate_left
            · intro w'
              go_simp
              with_reducible rfl
            rotate_left
            · simp only [Act.put, List.setIfInBounds_toArray, List.set_cons_zero, List.set_cons_succ, i64_w, i32_w]
              rfl
            refine done_ (done_of HT_.out (by kernel_rfl)) ?_
            clear HE1 HFL HRL hHeld
            obtain ⟨cts, hcts⟩ : ∃ z, z = S.foldl (addSpan X Wd Y) (List.replicate n 0) := ⟨_, rfl⟩
            have hctl : cts.length = n := by rw [hcts, foldl_len, List.length_replicate]
            rw [← hcts] at HCT
            have HCTS := Aside0.mk hcts
            clear hcts
            subst hctl
            go_wp2
            go_loopg [11, 64] cts.length (fun kx s11 s64 wr => ∃ (i : Nat) (v : Value) (cov : List Int), s64 = .int .i64 i ∧ i ≤ cts.length ∧ cts.length - i ≤ kx ∧ Aside0 (cov = (cts.take i).map alphaF) ∧ Aside0 (Below w.heap.size w wr) ∧ Aside0 (Ct g cts wr) ∧ Aside0 (wr.heap[g9]? = some (.cells #[.int .i64 X, .int .i64 Y, .int .i64 Wd, .int .i64 H, v] 25 (0, 0))) ∧ Aside0 (wr.heap[g4]? = some (.cells #[.int .i64 0, .int .i64 0, .int .i64 0, .int .i64 0, .slice none 0 0] 25 (0, 0))) ∧ Aside0 (Kd.R (Kd.int .u8) 5 wr w.heap.size (fun _ => True) v cov))
            case atStart => exact ⟨0, _, [], rfl, Nat.zero_le _, Nat.le_refl _, ⟨rfl⟩, HBf, HCT, b99f, b49f, ⟨Kd.R_nil _ _ _ _ _⟩⟩
            case round =>
              clear HBf HCT b99f b49f
              obtain ⟨i, v, cov, rfl, hin, hky, HCV, HBr, HCT, B9, B4r, HRV⟩ := hrel
              obtain ⟨Av, cv, hv⟩ := Kd.R_slice HRV.out
              subst hv
              by_cases hlt : i < cts.length
              · have hltz : (i : Int) < (cts.length : Int) := by omega
                have q0 : wr.cell? ⟨g, i, none⟩ = some (.int .i64 (cts.getD i 0)) := by
                  rw [blk_cell HCT.out]
                  simp [List.getD_eq_getElem?_getD, List.getElem?_eq_getElem hlt]
                have hcs : (cts.take i).map alphaF ++ [alphaF (cts.getD i 0)] = (cts.take (i + 1)).map alphaF := by
                  rw [List.take_succ_eq_append_getElem hlt, List.map_append, List.getD_eq_getElem?_getD, List.getElem?_eq_getElem hlt]
                  rfl
                have HCS := Aside0.mk hcs
                clear hcs
                generalize cts.getD i 0 = ci at *
                have HAL := Aside0.mk (fun W => raster_Alpha.calls ci (alphaF ci) W rfl)
                have hcvl : cov.length ≤ 262144 := by have := HCV.out; rw [this, List.length_map, List.length_take]; omega
                go_upto_region 14 with fail
                clear q0
                have v9 : wr.cell? ⟨g9, 4, none⟩ = some (.slice Av cov.length cv) := (blk_cell B9.out 4).trans rfl
                have HBd := Aside0.mk (below_drew1 HBr.out)
                have HCTd : Aside0 (Ct g cts wr.drew) := ⟨HCT.out⟩
                have B9d : Aside0 (wr.drew.heap[g9]? = some (.cells #[.int .i64 X, .int .i64 Y, .int .i64 Wd, .int .i64 H, .slice Av cov.length cv] 25 (0, 0))) := ⟨B9.out⟩
                have B4d : Aside0 (wr.drew.heap[g4]? = some (.cells #[.int .i64 0, .int .i64 0, .int .i64 0, .int .i64 0, .slice none 0 0] 25 (0, 0))) := ⟨B4r.out⟩
                have HRVd := Aside0.mk (Kd.R_below HRV.out (below_drew1 (Below.refl _ _)))
                clear HBr HCT B9 B4r HRV
                refine start_ (n := 8) (S := fun w' => w'.cell? ⟨g9, 4, none⟩ = some (.slice Av cov.length cv)) (ds := [7]) #[false, false, false, false, false, false, false, false] (by kernel_rfl) rfl rfl v9 (fun hHeld => ?_); refine with_tabW mask14tab mask14bits (fun HT_ HW_ => ?_)
                generalize wr.drew = w3 at HBd HCTd B9d B4d HRVd hHeld ⊢
                refine pure_ (i := 0) (N := (some 68)) (v := ?_) (a' := ?_) #[true, false, false, false, false, false, false, false] rfl rfl (any_of HT_.out (by kernel_rfl)) (fun _ _ _ h => h) (Or.inl ⟨by rfl, ?_⟩) ?_ ?_
                rotate_left
                · intro w'
                  go_simp
                  with_reducible rfl
                rotate_left
                · simp only [Act.put, List.setIfInBounds_toArray, List.set_cons_zero, List.set_cons_succ, i64_w, i32_w]
                  rfl
                refine take_ (i := 1) (N := (some 69)) (v := ?_) (a' := ?_) #[true, true, false, false, false, false, false, false] rfl rfl (take_ofW HT_.out HW_.out (by kernel_rfl)) (fun _ _ _ h => h) (Or.inl ⟨by rfl, ?_⟩) hHeld ?_ ?_
                rotate_left
                · rintro w' s0
                  go_simp
                  with_reducible rfl
                rotate_left
                · simp only [Act.put, List.setIfInBounds_toArray, List.set_cons_zero, List.set_cons_succ, i64_w, i32_w]
                  rfl
                refine pure_ (i := 2) (N := (some 70)) (v := ?_) (a' := ?_) #[true, true, true, false, false, false, false, false] rfl rfl (any_of HT_.out (by kernel_rfl)) (fun _ _ _ h => h) (Or.inl ⟨by rfl, ?_⟩) ?_ ?_
                rotate_left
                · intro w'
                  go_simp
                  with_reducible rfl
                rotate_left
                · simp only [Act.put, List.setIfInBounds_toArray, List.set_cons_zero, List.set_cons_succ, i64_w, i32_w]
                  rfl
                refine one_ (i := 3) (N := (some 71)) #[true, true, true, true, false, false, false, false] rfl rfl (one_of HT_.out (by kernel_rfl)) (by decide) (fun K hK => ?_)
                refine goes_ Try.func44 (by kernel_rfl) rfl #[.int .i64 ci] (by rfl) rfl rfl (by (try simp only [List.map_toArray, List.map_cons, List.map_nil]); first | done | rfl) ?_
                with_reducible refine Calls.mono (HAL.out _) ?_
                rintro e wb ⟨rfl, hb⟩
                refine ⟨_, rfl, ?_⟩
                have HBb := Aside0.mk (below_then HBd.out HBd.out.size hb)
                have HCTb := Aside0.mk (blk_below HCTd.out hb)
                have B9b := Aside0.mk (blk_below B9d.out hb)
                have B4b := Aside0.mk (blk_below B4d.out hb)
                have HRVb := Aside0.mk (Kd.R_below HRVd.out hb)
                clear hb HBd HCTd B9d B4d HRVd
                refine hK.out _ _ ((blk_cell B9b.out 4).trans rfl) (fun hHeld => ?_)
                clear hK K
                refine norm_ (a' := ?_) ?_ ?_
                rotate_left
                · show Act.put _ (some 71) _ = _
                  simp only [Act.put, List.setIfInBounds_toArray, List.set_cons_zero, List.set_cons_succ, i64_w, i32_w]
                  rfl
                refine one_ (i := 4) (N := (some 72)) #[true, true, true, true, true, false, false, false] rfl rfl (one_of HT_.out (by kernel_rfl)) (by decide) (fun K hK => ?_)
                refine value_ (w1 := ?_) (v := ?_) (by rfl) rfl ?_ ?_
                rotate_left 2
                · go_simp
                  constructor
                  · rfl
                  · rfl
                refine hK.out _ _ ((blk_cell (blk_alloc B9b.out _) 4).trans rfl) (fun hHeld => ?_)
                clear hK K
                refine norm_ (a' := ?_) ?_ ?_
                rotate_left
                · show Act.put _ (some 72) _ = _
                  simp only [Act.put, List.setIfInBounds_toArray, List.set_cons_zero, List.set_cons_succ, i64_w, i32_w]
                  rfl
                refine one_ (i := 5) (N := (some 73)) #[true, true, true, true, true, true, false, false] rfl rfl (one_of HT_.out (by kernel_rfl)) (by decide) (fun K hK => ?_)
                refine Kd.R_append_step (Kd.int .u8) (w0 := w) w.heap.size (by rfl) (.tmp 69) (.tmp 72) 23 5 (.int .u8 0) 1 rfl Try.underlying23 infoU8 rfl (by decide) (by omega) _ cov (alphaF ci) [.int .u8 (alphaF ci)] (fun _ => True) (fun _ => False) rfl rfl ?aP (fun _ hk => hk.elim) (fun _ _ => trivial) ?aO ?aB ?aS ?aL ?_
                (case aP => exact rfl)
                (case aO => exact HRVb.out)
                (case aB => exact HBb.out)
                (case aS => exact HBb.out.size)
                (case aL => omega)
                intro v9 w9 ho hb hg hat
                have HR9 := Aside0.mk ho
                have HB9 := Aside0.mk hb
                have HCT9 : Aside0 (Ct g cts w9) := ⟨(hg.block g (blk_lt HCTb.out) (Kd.R_ne HRVb.out HCTb.out (by decide))).trans HCTb.out⟩
                have B99 := Aside0.mk ((hg.block g9 (blk_lt B9b.out) (Kd.R_ne HRVb.out B9b.out (by decide))).trans B9b.out)
                have B49 := Aside0.mk ((hg.block g4 (blk_lt B4b.out) (Kd.R_ne HRVb.out B4b.out (by decide))).trans B4b.out)
                clear ho hb hg hat
                refine hK.out _ _ ((blk_cell B99.out 4).trans rfl) (fun hHeld => ?_)
                clear hK K
                refine norm_ (a' := ?_) ?_ ?_
                rotate_left
                · show Act.put _ (some 73) _ = _
                  simp only [Act.put, List.setIfInBounds_toArray, List.set_cons_zero, List.set_cons_succ, i64_w, i32_w]
                  rfl
                refine pure_ (i := 6) (N := (some 74)) (v := ?_) (a' := ?_) #[true, true, true, true, true, true, true, false] rfl rfl (any_of HT_.out (by kernel_rfl)) (fun _ _ _ h => h) (Or.inl ⟨by rfl, ?_⟩) ?_ ?_
                rotate_left
                · intro w'
                  go_simp
                  with_reducible rfl
                rotate_left
                · simp only [Act.put, List.setIfInBounds_toArray, List.set_cons_zero, List.set_cons_succ, i64_w, i32_w]
                  rfl
                refine last_ (i := 7) (N := none) #[true, true, true, true, true, true, true, true] rfl rfl (one_of HT_.out (by kernel_rfl)) (by decide) (fun K hK => ?_)
                have c9 := (blk_cell B99.out 4).trans rfl
                have g9f := blk_frozen B99.out 4
                obtain ⟨A9, cc9, hv9⟩ := Kd.R_slice HR9.out
                have hlen : (cov ++ [alphaF ci]).length = cov.length + 1 := by simp
                rw [hlen] at hv9
                subst hv9
                refine skip_ (w1 := ?_) (by rfl) rfl ?_ ?_
                rotate_left
                · go_simp
                  rfl
                refine hK.out _ _ ?_
                clear hK K
                refine done_ (done_of HT_.out (by kernel_rfl)) ?_
                have hne : g4 ≠ g9 := by have := HG9.out.2; omega
                have hng : g ≠ g9 := fun e => by have h := B99.out; rw [← e, HCT9.out] at h; injection h with h; injection h with _ h2; cases h2
                have B9z : Aside0 (_ = some (Obj.cells #[.int .i64 X, .int .i64 Y, .int .i64 Wd, .int .i64 H, .slice A9 (cov.length + 1) cc9] 25 (0, 0))) := Aside0.mk (blk_put (cs := #[.int .i64 X, .int .i64 Y, .int .i64 Wd, .int .i64 H, .slice Av cov.length cv]) B99.out 4 (.slice A9 (cov.length + 1) cc9) rfl)
                have B4z := Aside0.mk ((Below.heap_setCell w9 ⟨g9, 4, none⟩ (.slice A9 (cov.length + 1) cc9) g4 hne).trans B49.out)
                have CTz : Aside0 (Ct g cts _) := ⟨(Below.heap_setCell w9 ⟨g9, 4, none⟩ (.slice A9 (cov.length + 1) cc9) g hng).trans HCT9.out⟩
                have HBz := Aside0.mk (HB9.out.setCell (p := ⟨g9, 4, none⟩) HG9.out.1 (.slice A9 (cov.length + 1) cc9))
                have HRz := Aside0.mk (Kd.R_set HR9.out B99.out (by decide) 4 (.slice A9 (cov.length + 1) cc9))
                go_wp2_with fail
                go_roundg (cts.length - (i + 1))
                case measure => omega
                case rel => exact ⟨i + 1, .slice A9 (cov.length + 1) cc9, cov ++ [alphaF ci], by go_num, by omega, Nat.le_refl _, ⟨by rw [HCV.out]; exact HCS.out⟩, HBz, CTz, B9z, B4z, HRz⟩
              · have hltz : ¬ (i : Int) < (cts.length : Int) := by omega
                have hcv := HCV.out
                rw [List.take_of_length_le (by omega)] at hcv
                have HCV2 := Aside0.mk hcv
                clear hcv
                have f0 := blk_frozen B4r.out 0
                have f1 := blk_frozen B4r.out 1
                have f2 := blk_frozen B4r.out 2
                have f3 := blk_frozen B4r.out 3
                have f4 := blk_frozen B4r.out 4
                have c0 : wr.cell? ⟨g4, 0, none⟩ = some (.int .i64 0) := (blk_cell B4r.out 0).trans rfl
                have c1 : wr.cell? ⟨g4, 1, none⟩ = some (.int .i64 0) := (blk_cell B4r.out 1).trans rfl
                have c2 : wr.cell? ⟨g4, 2, none⟩ = some (.int .i64 0) := (blk_cell B4r.out 2).trans rfl
                have c3 : wr.cell? ⟨g4, 3, none⟩ = some (.int .i64 0) := (blk_cell B4r.out 3).trans rfl
                have c4 : wr.cell? ⟨g4, 4, none⟩ = some (.slice none 0 0) := (blk_cell B4r.out 4).trans rfl
                have d0 : wr.cell? ⟨g9, 0, none⟩ = some (.int .i64 X) := (blk_cell B9.out 0).trans rfl
                have d1 : wr.cell? ⟨g9, 1, none⟩ = some (.int .i64 Y) := (blk_cell B9.out 1).trans rfl
                have d2 : wr.cell? ⟨g9, 2, none⟩ = some (.int .i64 Wd) := (blk_cell B9.out 2).trans rfl
                have d3 : wr.cell? ⟨g9, 3, none⟩ = some (.int .i64 H) := (blk_cell B9.out 3).trans rfl
                have d4 : wr.cell? ⟨g9, 4, none⟩ = some (.slice Av cov.length cv) := (blk_cell B9.out 4).trans rfl
                go_wp2
                obtain ⟨wz, hwz⟩ : ∃ wz, wz = (((((wr.setCell ⟨g4, 0, none⟩ (.int .i64 X)).setCell ⟨g4, 1, none⟩ (.int .i64 Y)).setCell ⟨g4, 2, none⟩ (.int .i64 Wd)).setCell ⟨g4, 3, none⟩ (.int .i64 H)).setCell ⟨g4, 4, none⟩ (.slice Av cov.length cv)) := ⟨_, rfl⟩
                have hbz := put5 B4r.out (.int .i64 X) (.int .i64 Y) (.int .i64 Wd) (.int .i64 H) (.slice Av cov.length cv)
                have hbw := below5 HBr.out (by rw [HG4.out]; exact Nat.le_refl _) (g := g4) (.int .i64 X) (.int .i64 Y) (.int .i64 Wd) (.int .i64 H) (.slice Av cov.length cv)
                have hgw := grown5 (W := wr) (g := g4) (.int .i64 X) (.int .i64 Y) (.int .i64 Wd) (.int .i64 H) (.slice Av cov.length cv)
                rw [← hwz] at hbz hbw hgw
                rw [← hwz]
                have hrz := Kd.R_over' (v := .slice (some ⟨g4, 0, none⟩) 0 0) HRV.out (fun k hk => by injection hk with hk; subst hk; exact ⟨_, B4r.out⟩) (by decide) hgw
                have HCZ := Aside0.mk hrz
                have z0 : wz.cell? ⟨g4, 0, none⟩ = some (.int .i64 X) := (blk_cell hbz 0).trans rfl
                have z1 : wz.cell? ⟨g4, 1, none⟩ = some (.int .i64 Y) := (blk_cell hbz 1).trans rfl
                have z2 : wz.cell? ⟨g4, 2, none⟩ = some (.int .i64 Wd) := (blk_cell hbz 2).trans rfl
                have z3 : wz.cell? ⟨g4, 3, none⟩ = some (.int .i64 H) := (blk_cell hbz 3).trans rfl
                have z4 : wz.cell? ⟨g4, 4, none⟩ = some (.slice Av cov.length cv) := (blk_cell hbz 4).trans rfl
                have eX : mX ⟨x0, y0, x1, y1⟩ = X := EX.out.symm
                have eY : mY ⟨x0, y0, x1, y1⟩ = Y := EY.out.symm
                have eW : mW ⟨x0, y0, x1, y1⟩ = Wd := EW.out.symm
                have eH : mH ⟨x0, y0, x1, y1⟩ = H := EH.out.symm
                have hcl : cov.length = cts.length := by rw [HCV2.out, List.length_map]
                have hcov : Cov8 xs ⟨x0, y0, x1, y1⟩ cov := ⟨l, S, cts.length, HPL.out, HUL.out, by rw [eW, eH]; exact HN.out, by rw [eY, eH]; exact HS.out, by rw [eX, eW, eY, HCV2.out, ← HCTS.out]⟩
                have hpost : MaskE w xs 0 (.returned (.tuple #[.agg #[.int .i64 X, .int .i64 Y, .int .i64 Wd, .int .i64 H, .slice Av cov.length cv], .int .i64 0])) wz := ⟨hbw, .inr (.inr ⟨rfl, ⟨x0, y0, x1, y1⟩, Av, cv, cov, HO.out.symm, by rw [eW]; omega, by rw [eH]; omega, by rw [eW, eH, hcl]; exact HN.out, HCZ.out, hcov, by rw [eX, eY, eW, eH]⟩)⟩
                have HPO := Aside0.mk hpost
                clear hwz hbz hbw hgw hrz hcov hpost eX eY eW eH c0 c1 c2 c3 c4 f0 f1 f2 f3 f4 d0 d1 d2 d3 d4
                exact bodyPost_ret (v := .tuple #[.agg #[.int .i64 X, .int .i64 Y, .int .i64 Wd, .int .i64 H, .slice Av cov.length cv], .int .i64 0]) (by simp [results, Try.results17, go_sem, z0, z1, z2, z3, z4]) rfl HPO.out
  · have hrb : (r0 != 0) = true := by simp [hr0]
    have hrb2 : (r0 == 0) = false := by simp [hr0]
    go_upto_region 3 with (go_at_call 41; ((with_reducible refine Calls.mono HCK.out ?_); rintro e w2 ⟨rfl, hb2⟩; have HB2 := Aside0.mk (below_then HB1.out HB1.out.size hb2); have b42 := blk_below B4.out hb2; clear hb2))
    have HB4 := Aside0.mk b42
    have f0 := blk_frozen b42 0
    have f1 := blk_frozen b42 1
    have f2 := blk_frozen b42 2
    have f3 := blk_frozen b42 3
    have f4 := blk_frozen b42 4
    have c0 : w2.cell? ⟨g4, 0, none⟩ = some (.int .i64 0) := (blk_cell b42 0).trans rfl
    have c1 : w2.cell? ⟨g4, 1, none⟩ = some (.int .i64 0) := (blk_cell b42 1).trans rfl
    have c2 : w2.cell? ⟨g4, 2, none⟩ = some (.int .i64 0) := (blk_cell b42 2).trans rfl
    have c3 : w2.cell? ⟨g4, 3, none⟩ = some (.int .i64 0) := (blk_cell b42 3).trans rfl
    have c4 : w2.cell? ⟨g4, 4, none⟩ = some (.slice none 0 0) := (blk_cell b42 4).trans rfl
    clear b42
    go_wp2
    obtain ⟨wz, hwz⟩ : ∃ wz, wz = (((((w2.setCell ⟨g4, 0, none⟩ (.int .i64 0)).setCell ⟨g4, 1, none⟩ (.int .i64 0)).setCell ⟨g4, 2, none⟩ (.int .i64 0)).setCell ⟨g4, 3, none⟩ (.int .i64 0)).setCell ⟨g4, 4, none⟩ (.slice none 0 0)) := ⟨_, rfl⟩
    have hbz := put5 HB4.out (.int .i64 0) (.int .i64 0) (.int .i64 0) (.int .i64 0) (.slice none 0 0)
    have hbw := below5 HB2.out (by rw [HG4.out]; exact Nat.le_refl _) (g := g4) (.int .i64 0) (.int .i64 0) (.int .i64 0) (.int .i64 0) (.slice none 0 0)
    rw [← hwz] at hbz hbw
    rw [← hwz]
    have z0 : wz.cell? ⟨g4, 0, none⟩ = some (.int .i64 0) := (blk_cell hbz 0).trans rfl
    have z1 : wz.cell? ⟨g4, 1, none⟩ = some (.int .i64 0) := (blk_cell hbz 1).trans rfl
    have z2 : wz.cell? ⟨g4, 2, none⟩ = some (.int .i64 0) := (blk_cell hbz 2).trans rfl
    have z3 : wz.cell? ⟨g4, 3, none⟩ = some (.int .i64 0) := (blk_cell hbz 3).trans rfl
    have z4 : wz.cell? ⟨g4, 4, none⟩ = some (.slice none 0 0) := (blk_cell hbz 4).trans rfl
    clear hwz hbz c0 c1 c2 c3 c4 f0 f1 f2 f3 f4
    refine bodyPost_ret (v := .tuple #[zeroM, .int .i64 r0]) (by simp [zeroM, results, Try.results17, go_sem, z0, z1, z2, z3, z4]) rfl ⟨hbw, .inl ⟨r0, by rcases hr1 with h | h | h <;> simp_all, .inl hr0, rfl⟩⟩
end Go.Proofs.Yteoonjnmghponaa.H
