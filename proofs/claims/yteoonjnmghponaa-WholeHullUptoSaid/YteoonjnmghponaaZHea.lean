/- Package path: the box that grows, walked. Package path: held (Hull, Bounds), walked. -/
import Derived.Test.YteoonjnmghponaaZHab
import Derived.BigRegion
import Derived.Handy
namespace Go.Proofs.Yteoonjnmghponaa.H
open Go.RowKit Go.Proofs.Yteoonjnmghponaa.F Go.Proofs.YteoonjnmghponaaW.PrintWords Go.Proofs.YteoonjnmghponaaW.PrintLast Go.Proofs.YteoonjnmghponaaW.PrintMore
attribute [local go_sem] max2_int min2_int max_two min_two max_three min_three max_four min_four
set_option linter.unusedVariables false
set_option linter.unusedSimpArgs false
/-- The growing box in memory. -/
def Gb (p : Nat) (x0 y0 x1 y1 : Int) (s : Bool) (W : World) : Prop := W.heap[p]? = some (.cells #[.int .i64 x0, .int .i64 y0, .int .i64 x1, .int .i64 y1, .bool s] 107 (0, 0))
set_option maxHeartbeats 4000000 in
set_option maxRecDepth 100000 in
theorem add_some {W : World} {p : Nat} {x0 y0 x1 y1 x y : Int} (h : Gb p x0 y0 x1 y1 true W) :
    Calls Try.prog 55 #[.pointer (some ⟨p, 0, none⟩), .int .i64 x, .int .i64 y] W fun e w' => e = .returned (.tuple #[]) ∧ Gb p (mn x0 x) (mn y0 y) (mx x1 x) (mx y1 y) true w' ∧ Below p W w' := by
  have HG := Aside0.mk h
  have c0 : W.cell? ⟨p, 0, none⟩ = some (.int .i64 x0) := (blk_cell h 0).trans rfl
  have c1 : W.cell? ⟨p, 1, none⟩ = some (.int .i64 y0) := (blk_cell h 1).trans rfl
  have c2 : W.cell? ⟨p, 2, none⟩ = some (.int .i64 x1) := (blk_cell h 2).trans rfl
  have c3 : W.cell? ⟨p, 3, none⟩ = some (.int .i64 y1) := (blk_cell h 3).trans rfl
  have c4 : W.cell? ⟨p, 4, none⟩ = some (.bool true) := (blk_cell h 4).trans rfl
  have f0 := blk_frozen h 0
  have f1 := blk_frozen h 1
  have f2 := blk_frozen h 2
  have f3 := blk_frozen h 3
  clear h
  obtain ⟨a, ha⟩ : ∃ z, mn x0 x = z := ⟨_, rfl⟩
  obtain ⟨b, hb⟩ : ∃ z, mn y0 y = z := ⟨_, rfl⟩
  obtain ⟨c, hc⟩ : ∃ z, mx x1 x = z := ⟨_, rfl⟩
  obtain ⟨d, hd⟩ : ∃ z, mx y1 y = z := ⟨_, rfl⟩
  have ha_ : (if x < x0 then x else x0) = a := ha
  have hb_ : (if y < y0 then y else y0) = b := hb
  have hc_ : (if x1 < x then x else x1) = c := hc
  have hd_ : (if y1 < y then y else y1) = d := hd
  rw [ha, hb, hc, hd]
  clear ha hb hc hd
  go_enter Try.func55, Try.ntmps55
  go_wp2
  go_big_region
  go_wp2
  go_big_region
  go_wp2
  go_end0
  have b1 := blk_put (cs := #[.int .i64 x0, .int .i64 y0, .int .i64 x1, .int .i64 y1, .bool true]) HG.out 0 (.int .i64 a) rfl
  have b2 := blk_put (cs := #[.int .i64 a, .int .i64 y0, .int .i64 x1, .int .i64 y1, .bool true]) b1 1 (.int .i64 b) rfl
  have b3 := blk_put (cs := #[.int .i64 a, .int .i64 b, .int .i64 x1, .int .i64 y1, .bool true]) b2 2 (.int .i64 c) rfl
  have b4 := blk_put (cs := #[.int .i64 a, .int .i64 b, .int .i64 c, .int .i64 y1, .bool true]) b3 3 (.int .i64 d) rfl
  exact ⟨rfl, b4, (((((Below.refl p W).setCell (Nat.le_refl _) _).setCell (Nat.le_refl _) _).setCell (Nat.le_refl _) _).setCell (Nat.le_refl _) _).drew.drew⟩
set_option maxHeartbeats 4000000 in
set_option maxRecDepth 100000 in
theorem add_none {W : World} {p : Nat} {x0 y0 x1 y1 x y : Int} (h : Gb p x0 y0 x1 y1 false W) :
    Calls Try.prog 55 #[.pointer (some ⟨p, 0, none⟩), .int .i64 x, .int .i64 y] W fun e w' => e = .returned (.tuple #[]) ∧ Gb p x y x y true w' ∧ Below p W w' := by
  have HG := Aside0.mk h
  have c0 : W.cell? ⟨p, 0, none⟩ = some (.int .i64 x0) := (blk_cell h 0).trans rfl
  have c1 : W.cell? ⟨p, 1, none⟩ = some (.int .i64 y0) := (blk_cell h 1).trans rfl
  have c2 : W.cell? ⟨p, 2, none⟩ = some (.int .i64 x1) := (blk_cell h 2).trans rfl
  have c3 : W.cell? ⟨p, 3, none⟩ = some (.int .i64 y1) := (blk_cell h 3).trans rfl
  have c4 : W.cell? ⟨p, 4, none⟩ = some (.bool false) := (blk_cell h 4).trans rfl
  have f0 := blk_frozen h 0
  have f1 := blk_frozen h 1
  have f2 := blk_frozen h 2
  have f3 := blk_frozen h 3
  have f4 := blk_frozen h 4
  clear h
  have b1 := blk_put (cs := #[.int .i64 x0, .int .i64 y0, .int .i64 x1, .int .i64 y1, .bool false]) HG.out 0 (.int .i64 x) rfl
  have b2 := blk_put (cs := #[.int .i64 x, .int .i64 y0, .int .i64 x1, .int .i64 y1, .bool false]) b1 1 (.int .i64 y) rfl
  have b3 := blk_put (cs := #[.int .i64 x, .int .i64 y, .int .i64 x1, .int .i64 y1, .bool false]) b2 2 (.int .i64 x) rfl
  have b4 := blk_put (cs := #[.int .i64 x, .int .i64 y, .int .i64 x, .int .i64 y1, .bool false]) b3 3 (.int .i64 y) rfl
  have b5 := blk_put (cs := #[.int .i64 x, .int .i64 y, .int .i64 x, .int .i64 y, .bool false]) b4 4 (.bool true) rfl
  have hk : Below p W (((((W.setCell ⟨p, 0, none⟩ (.int .i64 x)).setCell ⟨p, 1, none⟩ (.int .i64 y)).setCell ⟨p, 2, none⟩ (.int .i64 x)).setCell ⟨p, 3, none⟩ (.int .i64 y)).setCell ⟨p, 4, none⟩ (.bool true)) := (((((Below.refl p W).setCell (Nat.le_refl _) _).setCell (Nat.le_refl _) _).setCell (Nat.le_refl _) _).setCell (Nat.le_refl _) _).setCell (Nat.le_refl _) _
  have HB5 := Aside0.mk b5
  have HK5 := Aside0.mk hk
  clear b1 b2 b3 b4 b5 hk
  go_enter Try.func55, Try.ntmps55
  go_upto_region 3 with fail
  clear c0 c1 c2 c3 c4 f0 f1 f2 f3 f4
  generalize ((((W.setCell ⟨p, 0, none⟩ (.int .i64 x)).setCell ⟨p, 1, none⟩ (.int .i64 y)).setCell ⟨p, 2, none⟩ (.int .i64 x)).setCell ⟨p, 3, none⟩ (.int .i64 y)).setCell ⟨p, 4, none⟩ (.bool true) = V at *
  have h := HB5.out
  have c0 : V.cell? ⟨p, 0, none⟩ = some (.int .i64 x) := (blk_cell h 0).trans rfl
  have c1 : V.cell? ⟨p, 1, none⟩ = some (.int .i64 y) := (blk_cell h 1).trans rfl
  have c2 : V.cell? ⟨p, 2, none⟩ = some (.int .i64 x) := (blk_cell h 2).trans rfl
  have c3 : V.cell? ⟨p, 3, none⟩ = some (.int .i64 y) := (blk_cell h 3).trans rfl
  have f0 := blk_frozen h 0
  have f1 := blk_frozen h 1
  have f2 := blk_frozen h 2
  have f3 := blk_frozen h 3
  have lx : ¬ x < x := Int.lt_irrefl x
  have ly : ¬ y < y := Int.lt_irrefl y
  clear h
  go_wp2
  go_big_region
  go_wp2
  go_big_region
  go_wp2
  go_end0
  have b1 := blk_put (cs := #[.int .i64 x, .int .i64 y, .int .i64 x, .int .i64 y, .bool true]) HB5.out 0 (.int .i64 x) rfl
  have b2 := blk_put (cs := #[.int .i64 x, .int .i64 y, .int .i64 x, .int .i64 y, .bool true]) b1 1 (.int .i64 y) rfl
  have b3 := blk_put (cs := #[.int .i64 x, .int .i64 y, .int .i64 x, .int .i64 y, .bool true]) b2 2 (.int .i64 x) rfl
  have b4 := blk_put (cs := #[.int .i64 x, .int .i64 y, .int .i64 x, .int .i64 y, .bool true]) b3 3 (.int .i64 y) rfl
  exact ⟨rfl, b4, ((((HK5.out.setCell (Nat.le_refl _) _).setCell (Nat.le_refl _) _).setCell (Nat.le_refl _) _).setCell (Nat.le_refl _) _).drew.drew⟩
/-- The box with a point more. -/
def addB : Option Bx → Int → Int → Option Bx
  | none, x, y => some ⟨x, y, x, y⟩
  | some B, x, y => some ⟨mn B.x0 x, mn B.y0 y, mx B.x1 x, mx B.y1 y⟩
def obV : Option Bx → Value
  | none => .agg #[.int .i64 0, .int .i64 0, .int .i64 0, .int .i64 0]
  | some B => .agg #[.int .i64 B.x0, .int .i64 B.y0, .int .i64 B.x1, .int .i64 B.y1]
/-- The growing box in memory: of no point yet, or of some. -/
def Go_ (p : Nat) (o : Option Bx) (W : World) : Prop :=
  match o with
  | none => Gb p 0 0 0 0 false W
  | some B => Gb p B.x0 B.y0 B.x1 B.y1 true W
theorem add_any {W : World} {p : Nat} {o : Option Bx} {x y : Int} (h : Go_ p o W) :
    Calls Try.prog 55 #[.pointer (some ⟨p, 0, none⟩), .int .i64 x, .int .i64 y] W fun e w' => e = .returned (.tuple #[]) ∧ Go_ p (addB o x y) w' ∧ Below p W w' := by
  cases o with
  | none => exact add_none h
  | some B => exact add_some h
theorem Go_.keep {W W' : World} {p : Nat} {o : Option Bx} (h : Go_ p o W) (hb : Below W.heap.size W W') : Go_ p o W' := by
  cases o with
  | none => exact blk_below h hb
  | some B => exact blk_below h hb
end Go.Proofs.Yteoonjnmghponaa.H
namespace Go.Proofs.Yteoonjnmghponaa.H
open Go.RowKit Go.Proofs.Yteoonjnmghponaa.F Go.Proofs.YteoonjnmghponaaW.PrintWords Go.Proofs.YteoonjnmghponaaW.PrintLast Go.Proofs.YteoonjnmghponaaW.PrintMore
set_option linter.unusedVariables false
set_option linter.unusedSimpArgs false
theorem Go_.some_ {p : Nat} {o : Option Bx} {W : World} (h : Go_ p o W) : ∃ x0 y0 x1 y1 s, Gb p x0 y0 x1 y1 s W ∧ obV o = .agg #[.int .i64 x0, .int .i64 y0, .int .i64 x1, .int .i64 y1] ∧ o.isSome = s := by
  cases o with
  | none => exact ⟨_, _, _, _, _, h, rfl, rfl⟩
  | some B => exact ⟨_, _, _, _, _, h, rfl, rfl⟩
def row70 (c : List S70) (o : Option Bx) : Option Bx := c.foldl (fun o s => addB o s.f0 s.f1) o
def all70 (l : List (List S70)) (o : Option Bx) : Option Bx := l.foldl (fun o c => row70 c o) o
set_option maxHeartbeats 4000000 in
set_option maxRecDepth 100000 in
theorem heldK_at {W : World} (x : S70) : Calls Try.prog 23 #[.agg #[.int .i64 x.f0, .int .i64 x.f1, .int .i64 x.f2]] W fun e w' => e = .returned (.tuple #[.int .i64 x.f0, .int .i64 x.f1]) ∧ Below W.heap.size W w' := by
  obtain ⟨z0, z1, z2⟩ := x
  dsimp only
  go_enter Try.func23, Try.ntmps23
  go_upto_region 1 with fail
  have hb := blk_new W (.cells #[.int .i64 z0, .int .i64 z1, .int .i64 z2] 70)
  have h0 : (W.alloc (.cells #[.int .i64 z0, .int .i64 z1, .int .i64 z2] 70)).cell? ⟨W.heap.size, 0, none⟩ = some (.int .i64 z0) := (blk_cell hb 0).trans rfl
  have h1 : (W.alloc (.cells #[.int .i64 z0, .int .i64 z1, .int .i64 z2] 70)).cell? ⟨W.heap.size, 1, none⟩ = some (.int .i64 z1) := (blk_cell hb 1).trans rfl
  have HBl := Aside0.mk (below_alloc (Below.refl W.heap.size W) (.cells #[.int .i64 z0, .int .i64 z1, .int .i64 z2] 70))
  clear hb
  generalize W.alloc (.cells #[.int .i64 z0, .int .i64 z1, .int .i64 z2] 70) = V at *
  have hgs : W.heap.size = W.heap.size := rfl
  go_region
  go_wp2
  go_ret2
  exact ⟨rfl, below_drew1 HBl.out⟩
set_option maxHeartbeats 4000000 in
set_option maxRecDepth 100000 in
theorem heldK_any {w : World} {A : Option Addr} {c : Nat} {xs : List (List S70)} (hC : Kd.C (Kd.slice 70 k70) w A xs.length xs) (hl : xs.length < 4000000000000) (hx : ∀ c ∈ xs, c.length < 4000000000000) :
    Calls Try.prog 22 #[.slice A xs.length c, .func (.func 23) #[] #[]] w fun e w' => e = .returned (.tuple #[obV (all70 xs none), .bool (all70 xs none).isSome]) ∧ Below w.heap.size w w' := by
  have HC := Aside0.mk hC
  have HX := Aside0.mk hx
  clear hC hx
  obtain ⟨F, hF⟩ : ∃ z, z = all70 xs none := ⟨_, rfl⟩
  rw [← hF]
  have HF := Aside0.mk hF
  clear hF
  go_enter Try.func22, Try.ntmps22
  go_upto_region 2 with fail
  obtain ⟨V, hV⟩ : ∃ X, X = (w.alloc (.cells #[.int .i64 0, .int .i64 0, .int .i64 0, .int .i64 0] 37)).alloc (.cells #[.int .i64 0, .int .i64 0, .int .i64 0, .int .i64 0, .bool false] 107) := ⟨_, rfl⟩
  have b4 : V.heap[w.heap.size]? = some (.cells #[.int .i64 0, .int .i64 0, .int .i64 0, .int .i64 0] 37 (0, 0)) := by
    rw [hV]
    exact blk_alloc (blk_new w _) _
  have b6 : Go_ (w.heap.size + 1) none V := by
    rw [hV]
    have := blk_new (w.alloc (.cells #[.int .i64 0, .int .i64 0, .int .i64 0, .int .i64 0] 37)) (.cells #[.int .i64 0, .int .i64 0, .int .i64 0, .int .i64 0, .bool false] 107)
    rw [World.size_alloc] at this
    exact this
  have hbV : Below w.heap.size w V := by
    rw [hV]
    exact below_alloc (below_alloc (Below.refl _ _) _) _
  have B4 := Aside0.mk b4
  have B6 := Aside0.mk b6
  have HBV := Aside0.mk hbV
  rw [← hV]
  clear hV b4 b6 hbV
  have HP : Aside0 (w.heap.size ≤ w.heap.size + 1 ∧ w.heap.size ≠ w.heap.size + 1) := ⟨⟨by omega, by omega⟩⟩
  generalize w.heap.size + 1 = p at *
  obtain ⟨g4, hg4⟩ : ∃ g, g = w.heap.size := ⟨_, rfl⟩
  rw [← hg4] at B4 HP ⊢
  have HG4 := Aside0.mk hg4
  clear hg4
  go_wp2
  go_loopg [8, 10, 13] xs.length (fun kx s8 s10 s13 wr => ∃ (i : Nat) (o : Option Bx), s13 = .int .i64 i ∧ i ≤ xs.length ∧ xs.length - i ≤ kx ∧ Aside0 (F = all70 (xs.drop i) o) ∧ Aside0 (Go_ p o wr) ∧ Aside0 (wr.heap[g4]? = some (.cells #[.int .i64 0, .int .i64 0, .int .i64 0, .int .i64 0] 37 (0, 0))) ∧ Aside0 (Below w.heap.size w wr))
  case atStart => exact ⟨0, none, rfl, Nat.zero_le _, Nat.le_refl _, HF, B6, B4, HBV⟩
  case round =>
    clear HF B6 B4 HBV
    obtain ⟨i, o, rfl, hin, hkx, HF, HO, B4, HBw⟩ := hrel
    by_cases hlt : i < xs.length
    · have hltz : (i : Int) < (xs.length : Int) := by omega
      obtain ⟨ad, A0, c0, e, q0, q1, q2⟩ := at_L4 HC.out i (by omega) (by omega)
      subst e
      have hrow : rd_L4 xs i = xs[i] := by
        unfold rd_L4
        rw [Int.toNat_natCast, List.getD_eq_getElem?_getD, List.getElem?_eq_getElem hlt]
        rfl
      rw [hrow] at q0 q1 q2
      rw [Int.toNat_natCast] at q0
      have hF := HF.out
      rw [List.drop_eq_getElem_cons hlt] at hF
      have hF2 : F = all70 (xs.drop (i + 1)) (row70 xs[i] o) := hF
      have hrl := HX.out _ (List.getElem_mem hlt)
      generalize xs[i] = l at *
      have HF2 := Aside0.mk hF2
      have HC2 := Aside0.mk q2
      have qk := pw_cell_below HBw.out q0
      clear q0 q1 q2 hF hF2 hrow HF
      obtain ⟨G, hG⟩ : ∃ z, z = row70 l o := ⟨_, rfl⟩
      rw [← hG] at HF2
      have HG := Aside0.mk hG
      clear hG
      go_upto_region 5 with fail
      clear qk
      go_wp2
      go_loopg [10, 19] l.length (fun kx s10 s19 wr => ∃ (j : Nat) (o : Option Bx), s19 = .int .i64 j ∧ j ≤ l.length ∧ l.length - j ≤ kx ∧ Aside0 (G = row70 (l.drop j) o) ∧ Aside0 (Go_ p o wr) ∧ Aside0 (wr.heap[g4]? = some (.cells #[.int .i64 0, .int .i64 0, .int .i64 0, .int .i64 0] 37 (0, 0))) ∧ Aside0 (Below w.heap.size w wr))
      case atStart => exact ⟨0, o, rfl, Nat.zero_le _, Nat.le_refl _, HG, HO, B4, HBw⟩
      case round =>
        clear HG HO B4 HBw
        obtain ⟨j, o, rfl, hjn, hkj, HG, HO, B4, HBw⟩ := hrel
        by_cases hjl : j < l.length
        · have hjz : (j : Int) < (l.length : Int) := by omega
          obtain ⟨ae, e, q0, q1, q2⟩ := at_T70 (Kd.C_below HC2.out HBw.out) j (by omega) (by omega)
          subst e
          have hrow : rd_T70 l j = l[j] := by
            unfold rd_T70
            rw [Int.toNat_natCast, List.getD_eq_getElem?_getD, List.getElem?_eq_getElem hjl]
            rfl
          rw [hrow] at q0 q1 q2
          rw [Int.toNat_natCast] at q0 q1 q2
          have hG := HG.out
          rw [List.drop_eq_getElem_cons hjl] at hG
          have hG2 : G = row70 (l.drop (j + 1)) (addB o l[j].f0 l[j].f1) := hG
          have HG2 := Aside0.mk hG2
          clear hG hG2 HG hrow
          generalize l[j] = x at *
          go_upto_region 8 with fail
          have hbk := blk_new wr (.cells #[.int .i64 x.f0, .int .i64 x.f1, .int .i64 x.f2] 70)
          have r0 : (wr.alloc (.cells #[.int .i64 x.f0, .int .i64 x.f1, .int .i64 x.f2] 70)).cell? ⟨wr.heap.size, 0, none⟩ = some (.int .i64 x.f0) := (blk_cell hbk 0).trans rfl
          have r1 : (wr.alloc (.cells #[.int .i64 x.f0, .int .i64 x.f1, .int .i64 x.f2] 70)).cell? ⟨wr.heap.size, 1, none⟩ = some (.int .i64 x.f1) := (blk_cell hbk 1).trans rfl
          have r2 : (wr.alloc (.cells #[.int .i64 x.f0, .int .i64 x.f1, .int .i64 x.f2] 70)).cell? ⟨wr.heap.size, 2, none⟩ = some (.int .i64 x.f2) := (blk_cell hbk 2).trans rfl
          have HBk := Aside0.mk (below_alloc HBw.out (.cells #[.int .i64 x.f0, .int .i64 x.f1, .int .i64 x.f2] 70))
          have HOk := Aside0.mk (HO.out.keep (below_alloc (Below.refl _ _) (.cells #[.int .i64 x.f0, .int .i64 x.f1, .int .i64 x.f2] 70)))
          have B4k := Aside0.mk (blk_alloc B4.out (.cells #[.int .i64 x.f0, .int .i64 x.f1, .int .i64 x.f2] 70))
          clear hbk HO B4 HBw q0 q1 q2
          generalize wr.alloc (.cells #[.int .i64 x.f0, .int .i64 x.f1, .int .i64 x.f2] 70) = wk at *
          generalize wr.heap.size = gx at *
          go_wp2_with (first | (go_at_call 23; ((with_reducible refine Calls.mono (heldK_at x) ?_); rintro e w6 ⟨rfl, hb6⟩; have HB6 := Aside0.mk (below_then HBk.out HBk.out.size hb6); have HO6 := Aside0.mk (HOk.out.keep hb6); have B46 := Aside0.mk (blk_below B4k.out hb6); clear hb6)) | (go_at_call 55; ((with_reducible refine Calls.mono (add_any HO6.out) ?_); rintro e w7 ⟨rfl, ho7, hb7⟩; have HO7 := Aside0.mk ho7; have HB7 := Aside0.mk (HB6.out.trans (hb7.mono (by have := HP.out.1; have := HG4.out; omega))); have B47 := Aside0.mk ((hb7.block g4 (by have := HP.out; omega)).trans B46.out); clear ho7 hb7)))
          go_roundg (l.length - (j + 1))
          case measure => omega
          case rel => exact ⟨j + 1, _, by go_num, by omega, Nat.le_refl _, HG2, HO7, B47, HB7⟩
        · have hjz : ¬ (j : Int) < (l.length : Int) := by omega
          have hje : j = l.length := by omega
          have hG := HG.out
          rw [hje, List.drop_length] at hG
          have hG2 : G = o := hG
          subst hG2
          go_wp2
          go_roundg (xs.length - (i + 1))
          case measure => omega
          case rel => exact ⟨i + 1, G, by go_num, by omega, Nat.le_refl _, HF2, HO, B4, HBw⟩
    · have hltz : ¬ (i : Int) < (xs.length : Int) := by omega
      have hie : i = xs.length := by omega
      have hF := HF.out
      rw [hie, List.drop_length] at hF
      have hF2 : F = o := hF
      subst hF2
      obtain ⟨x0, y0, x1, y1, s, hb, hv, hs⟩ := HO.out.some_
      have hb' : wr.heap[p]? = some (.cells #[.int .i64 x0, .int .i64 y0, .int .i64 x1, .int .i64 y1, .bool s] 107 (0, 0)) := hb
      have c0 : wr.cell? ⟨p, 0, none⟩ = some (.int .i64 x0) := (blk_cell hb' 0).trans rfl
      have c1 : wr.cell? ⟨p, 1, none⟩ = some (.int .i64 y0) := (blk_cell hb' 1).trans rfl
      have c2 : wr.cell? ⟨p, 2, none⟩ = some (.int .i64 x1) := (blk_cell hb' 2).trans rfl
      have c3 : wr.cell? ⟨p, 3, none⟩ = some (.int .i64 y1) := (blk_cell hb' 3).trans rfl
      have c4 : wr.cell? ⟨p, 4, none⟩ = some (.bool s) := (blk_cell hb' 4).trans rfl
      have k0 : wr.cell? ⟨g4, 0, none⟩ = some (.int .i64 0) := (blk_cell B4.out 0).trans rfl
      have k1 : wr.cell? ⟨g4, 1, none⟩ = some (.int .i64 0) := (blk_cell B4.out 1).trans rfl
      have k2 : wr.cell? ⟨g4, 2, none⟩ = some (.int .i64 0) := (blk_cell B4.out 2).trans rfl
      have k3 : wr.cell? ⟨g4, 3, none⟩ = some (.int .i64 0) := (blk_cell B4.out 3).trans rfl
      have f0 := blk_frozen B4.out 0
      have f1 := blk_frozen B4.out 1
      have f2 := blk_frozen B4.out 2
      have f3 := blk_frozen B4.out 3
      have hne := HP.out.2
      have hne2 : p ≠ g4 := fun e => hne e.symm
      clear hb hb'
      go_wp2
      go_region
      go_wp2
      have e1 := blk_put (cs := #[.int .i64 0, .int .i64 0, .int .i64 0, .int .i64 0]) B4.out 0 (.int .i64 x0) rfl
      have e2 := blk_put (cs := #[.int .i64 x0, .int .i64 0, .int .i64 0, .int .i64 0]) e1 1 (.int .i64 y0) rfl
      have e3 := blk_put (cs := #[.int .i64 x0, .int .i64 y0, .int .i64 0, .int .i64 0]) e2 2 (.int .i64 x1) rfl
      have e4 := blk_put (cs := #[.int .i64 x0, .int .i64 y0, .int .i64 x1, .int .i64 0]) e3 3 (.int .i64 y1) rfl
      have hg : w.heap.size ≤ g4 := by have := HG4.out; omega
      have HBe : Aside0 (Below w.heap.size w ((((wr.setCell ⟨g4, 0, none⟩ (.int .i64 x0)).setCell ⟨g4, 1, none⟩ (.int .i64 y0)).setCell ⟨g4, 2, none⟩ (.int .i64 x1)).setCell ⟨g4, 3, none⟩ (.int .i64 y1)).drew) := ⟨((((HBw.out.setCell hg _).setCell hg _).setCell hg _).setCell hg _).drew⟩
      have e5 : ((((wr.setCell ⟨g4, 0, none⟩ (.int .i64 x0)).setCell ⟨g4, 1, none⟩ (.int .i64 y0)).setCell ⟨g4, 2, none⟩ (.int .i64 x1)).setCell ⟨g4, 3, none⟩ (.int .i64 y1)).drew.heap[g4]? = some (.cells #[.int .i64 x0, .int .i64 y0, .int .i64 x1, .int .i64 y1] 37 (0, 0)) := e4
      clear c0 c1 c2 c3 c4 k0 k1 k2 k3 f0 f1 f2 f3 e1 e2 e3 e4 hg
      generalize ((((wr.setCell ⟨g4, 0, none⟩ (.int .i64 x0)).setCell ⟨g4, 1, none⟩ (.int .i64 y0)).setCell ⟨g4, 2, none⟩ (.int .i64 x1)).setCell ⟨g4, 3, none⟩ (.int .i64 y1)).drew = we at *
      have z0 : we.cell? ⟨g4, 0, none⟩ = some (.int .i64 x0) := (blk_cell e5 0).trans rfl
      have z1 : we.cell? ⟨g4, 1, none⟩ = some (.int .i64 y0) := (blk_cell e5 1).trans rfl
      have z2 : we.cell? ⟨g4, 2, none⟩ = some (.int .i64 x1) := (blk_cell e5 2).trans rfl
      have z3 : we.cell? ⟨g4, 3, none⟩ = some (.int .i64 y1) := (blk_cell e5 3).trans rfl
      refine bodyPost_ret (by simp [results, Try.results22, go_sem, z0, z1, z2, z3]; try rfl) rfl ?_
      exact ⟨by rw [hv, hs], HBe.out⟩
set_option maxHeartbeats 4000000 in
set_option maxRecDepth 100000 in
theorem hull_any {w : World} {A : Option Addr} {c : Nat} {xs : List (List S70)} (hC : Kd.C (Kd.slice 70 k70) w A xs.length xs) (hl : xs.length < 4000000000000) (hx : ∀ c ∈ xs, c.length < 4000000000000) :
    Calls Try.prog 8 #[.slice A xs.length c] w fun e w' => e = .returned (.tuple #[obV (all70 xs none), .bool (all70 xs none).isSome]) ∧ Below w.heap.size w w' := by
  have HC := Aside0.mk hC
  have HX := Aside0.mk hx
  clear hC hx
  obtain ⟨F, hF⟩ : ∃ z, z = all70 xs none := ⟨_, rfl⟩
  rw [← hF]
  have HF := Aside0.mk hF
  clear hF
  obtain ⟨x0, y0, x1, y1, s, hv, hs⟩ : ∃ x0 y0 x1 y1 s, obV F = .agg #[.int .i64 x0, .int .i64 y0, .int .i64 x1, .int .i64 y1] ∧ F.isSome = s := by
    cases F with
    | none => exact ⟨_, _, _, _, _, rfl, rfl⟩
    | some B => exact ⟨_, _, _, _, _, rfl, rfl⟩
  rw [hv, hs]
  have hcon := heldK_any (c := c) (Kd.C_below HC.out (below_alloc (Below.refl w.heap.size w) (.cells #[.int .i64 0, .int .i64 0, .int .i64 0, .int .i64 0] 37))) hl HX.out
  rw [← HF.out, hv, hs] at hcon
  have HCon := Aside0.mk hcon
  have b0 := Aside0.mk (blk_new w (.cells #[.int .i64 0, .int .i64 0, .int .i64 0, .int .i64 0] 37))
  have HB0 := Aside0.mk (below_alloc (Below.refl w.heap.size w) (.cells #[.int .i64 0, .int .i64 0, .int .i64 0, .int .i64 0] 37))
  clear hcon hv hs HC
  go_enter Try.func8, Try.ntmps8
  go_upto_region 1 with fail
  obtain ⟨g, hg⟩ : ∃ g, g = w.heap.size := ⟨_, rfl⟩
  obtain ⟨V, hV⟩ : ∃ V, V = w.alloc (.cells #[.int .i64 0, .int .i64 0, .int .i64 0, .int .i64 0] 37) := ⟨_, rfl⟩
  rw [← hV, ← hg] at b0
  rw [← hV] at HB0 HCon ⊢
  rw [← hg] at ⊢
  have HG := Aside0.mk hg
  clear hg hV
  go_wp2_with (go_at_call 22; ((with_reducible refine Calls.mono HCon.out ?_); rintro e w6 ⟨rfl, hb6⟩; have B6 := Aside0.mk (blk_below b0.out hb6); have HB6 := Aside0.mk (below_then HB0.out HB0.out.size hb6); have k0 : w6.cell? ⟨g, 0, none⟩ = some (.int .i64 0) := (blk_cell B6.out 0).trans rfl; have k1 : w6.cell? ⟨g, 1, none⟩ = some (.int .i64 0) := (blk_cell B6.out 1).trans rfl; have k2 : w6.cell? ⟨g, 2, none⟩ = some (.int .i64 0) := (blk_cell B6.out 2).trans rfl; have k3 : w6.cell? ⟨g, 3, none⟩ = some (.int .i64 0) := (blk_cell B6.out 3).trans rfl; have f0 := blk_frozen B6.out 0; have f1 := blk_frozen B6.out 1; have f2 := blk_frozen B6.out 2; have f3 := blk_frozen B6.out 3; clear hb6))
  have e1 := blk_put (cs := #[.int .i64 0, .int .i64 0, .int .i64 0, .int .i64 0]) B6.out 0 (.int .i64 x0) rfl
  have e2 := blk_put (cs := #[.int .i64 x0, .int .i64 0, .int .i64 0, .int .i64 0]) e1 1 (.int .i64 y0) rfl
  have e3 := blk_put (cs := #[.int .i64 x0, .int .i64 y0, .int .i64 0, .int .i64 0]) e2 2 (.int .i64 x1) rfl
  have e4 := blk_put (cs := #[.int .i64 x0, .int .i64 y0, .int .i64 x1, .int .i64 0]) e3 3 (.int .i64 y1) rfl
  have hg : w.heap.size ≤ g := by have := HG.out; omega
  have HBe : Aside0 (Below w.heap.size w ((((w6.setCell ⟨g, 0, none⟩ (.int .i64 x0)).setCell ⟨g, 1, none⟩ (.int .i64 y0)).setCell ⟨g, 2, none⟩ (.int .i64 x1)).setCell ⟨g, 3, none⟩ (.int .i64 y1))) := ⟨((((HB6.out.setCell hg _).setCell hg _).setCell hg _).setCell hg _)⟩
  clear hg k0 k1 k2 k3 f0 f1 f2 f3 e1 e2 e3
  generalize (((w6.setCell ⟨g, 0, none⟩ (.int .i64 x0)).setCell ⟨g, 1, none⟩ (.int .i64 y0)).setCell ⟨g, 2, none⟩ (.int .i64 x1)).setCell ⟨g, 3, none⟩ (.int .i64 y1) = we at *
  have z0 : we.cell? ⟨g, 0, none⟩ = some (.int .i64 x0) := (blk_cell e4 0).trans rfl
  have z1 : we.cell? ⟨g, 1, none⟩ = some (.int .i64 y0) := (blk_cell e4 1).trans rfl
  have z2 : we.cell? ⟨g, 2, none⟩ = some (.int .i64 x1) := (blk_cell e4 2).trans rfl
  have z3 : we.cell? ⟨g, 3, none⟩ = some (.int .i64 y1) := (blk_cell e4 3).trans rfl
  refine bodyPost_ret (by simp [results, Try.results8, go_sem, z0, z1, z2, z3]; try rfl) rfl ?_
  exact ⟨rfl, HBe.out⟩
def row30 (c : List S30) (o : Option Bx) : Option Bx := c.foldl (fun o s => addB o s.f0 s.f1) o
def all30 (l : List (List S30)) (o : Option Bx) : Option Bx := l.foldl (fun o c => row30 c o) o
set_option maxHeartbeats 4000000 in
set_option maxRecDepth 100000 in
theorem heldS_at {W : World} (x : S30) : Calls Try.prog 89 #[.agg #[.int .i64 x.f0, .int .i64 x.f1]] W fun e w' => e = .returned (.tuple #[.int .i64 x.f0, .int .i64 x.f1]) ∧ Below W.heap.size W w' := by
  obtain ⟨z0, z1⟩ := x
  dsimp only
  go_enter Try.func89, Try.ntmps89
  go_upto_region 1 with fail
  have hb := blk_new W (.cells #[.int .i64 z0, .int .i64 z1] 30)
  have h0 : (W.alloc (.cells #[.int .i64 z0, .int .i64 z1] 30)).cell? ⟨W.heap.size, 0, none⟩ = some (.int .i64 z0) := (blk_cell hb 0).trans rfl
  have h1 : (W.alloc (.cells #[.int .i64 z0, .int .i64 z1] 30)).cell? ⟨W.heap.size, 1, none⟩ = some (.int .i64 z1) := (blk_cell hb 1).trans rfl
  have HBl := Aside0.mk (below_alloc (Below.refl W.heap.size W) (.cells #[.int .i64 z0, .int .i64 z1] 30))
  clear hb
  generalize W.alloc (.cells #[.int .i64 z0, .int .i64 z1] 30) = V at *
  have hgs : W.heap.size = W.heap.size := rfl
  go_region
  go_wp2
  go_ret2
  exact ⟨rfl, below_drew1 HBl.out⟩
set_option maxHeartbeats 4000000 in
set_option maxRecDepth 100000 in
theorem heldS_any {w : World} {A : Option Addr} {c : Nat} {xs : List (List S30)} (hC : Kd.C (Kd.slice 30 k30) w A xs.length xs) (hl : xs.length < 4000000000000) (hx : ∀ c ∈ xs, c.length < 4000000000000) :
    Calls Try.prog 88 #[.slice A xs.length c, .func (.func 89) #[] #[]] w fun e w' => e = .returned (.tuple #[obV (all30 xs none), .bool (all30 xs none).isSome]) ∧ Below w.heap.size w w' := by
  have HC := Aside0.mk hC
  have HX := Aside0.mk hx
  clear hC hx
  obtain ⟨F, hF⟩ : ∃ z, z = all30 xs none := ⟨_, rfl⟩
  rw [← hF]
  have HF := Aside0.mk hF
  clear hF
  go_enter Try.func88, Try.ntmps88
  go_upto_region 2 with fail
  obtain ⟨V, hV⟩ : ∃ X, X = (w.alloc (.cells #[.int .i64 0, .int .i64 0, .int .i64 0, .int .i64 0] 37)).alloc (.cells #[.int .i64 0, .int .i64 0, .int .i64 0, .int .i64 0, .bool false] 107) := ⟨_, rfl⟩
  have b4 : V.heap[w.heap.size]? = some (.cells #[.int .i64 0, .int .i64 0, .int .i64 0, .int .i64 0] 37 (0, 0)) := by
    rw [hV]
    exact blk_alloc (blk_new w _) _
  have b6 : Go_ (w.heap.size + 1) none V := by
    rw [hV]
    have := blk_new (w.alloc (.cells #[.int .i64 0, .int .i64 0, .int .i64 0, .int .i64 0] 37)) (.cells #[.int .i64 0, .int .i64 0, .int .i64 0, .int .i64 0, .bool false] 107)
    rw [World.size_alloc] at this
    exact this
  have hbV : Below w.heap.size w V := by
    rw [hV]
    exact below_alloc (below_alloc (Below.refl _ _) _) _
  have B4 := Aside0.mk b4
  have B6 := Aside0.mk b6
  have HBV := Aside0.mk hbV
  rw [← hV]
  clear hV b4 b6 hbV
  have HP : Aside0 (w.heap.size ≤ w.heap.size + 1 ∧ w.heap.size ≠ w.heap.size + 1) := ⟨⟨by omega, by omega⟩⟩
  generalize w.heap.size + 1 = p at *
  obtain ⟨g4, hg4⟩ : ∃ g, g = w.heap.size := ⟨_, rfl⟩
  rw [← hg4] at B4 HP ⊢
  have HG4 := Aside0.mk hg4
  clear hg4
  go_wp2
  go_loopg [8, 10, 13] xs.length (fun kx s8 s10 s13 wr => ∃ (i : Nat) (o : Option Bx), s13 = .int .i64 i ∧ i ≤ xs.length ∧ xs.length - i ≤ kx ∧ Aside0 (F = all30 (xs.drop i) o) ∧ Aside0 (Go_ p o wr) ∧ Aside0 (wr.heap[g4]? = some (.cells #[.int .i64 0, .int .i64 0, .int .i64 0, .int .i64 0] 37 (0, 0))) ∧ Aside0 (Below w.heap.size w wr))
  case atStart => exact ⟨0, none, rfl, Nat.zero_le _, Nat.le_refl _, HF, B6, B4, HBV⟩
  case round =>
    clear HF B6 B4 HBV
    obtain ⟨i, o, rfl, hin, hkx, HF, HO, B4, HBw⟩ := hrel
    by_cases hlt : i < xs.length
    · have hltz : (i : Int) < (xs.length : Int) := by omega
      obtain ⟨ad, A0, c0, e, q0, q1, q2⟩ := at_L2 HC.out i (by omega) (by omega)
      subst e
      have hrow : rd_L2 xs i = xs[i] := by
        unfold rd_L2
        rw [Int.toNat_natCast, List.getD_eq_getElem?_getD, List.getElem?_eq_getElem hlt]
        rfl
      rw [hrow] at q0 q1 q2
      rw [Int.toNat_natCast] at q0
      have hF := HF.out
      rw [List.drop_eq_getElem_cons hlt] at hF
      have hF2 : F = all30 (xs.drop (i + 1)) (row30 xs[i] o) := hF
      have hrl := HX.out _ (List.getElem_mem hlt)
      generalize xs[i] = l at *
      have HF2 := Aside0.mk hF2
      have HC2 := Aside0.mk q2
      have qk := pw_cell_below HBw.out q0
      clear q0 q1 q2 hF hF2 hrow HF
      obtain ⟨G, hG⟩ : ∃ z, z = row30 l o := ⟨_, rfl⟩
      rw [← hG] at HF2
      have HG := Aside0.mk hG
      clear hG
      go_upto_region 5 with fail
      clear qk
      go_wp2
      go_loopg [10, 19] l.length (fun kx s10 s19 wr => ∃ (j : Nat) (o : Option Bx), s19 = .int .i64 j ∧ j ≤ l.length ∧ l.length - j ≤ kx ∧ Aside0 (G = row30 (l.drop j) o) ∧ Aside0 (Go_ p o wr) ∧ Aside0 (wr.heap[g4]? = some (.cells #[.int .i64 0, .int .i64 0, .int .i64 0, .int .i64 0] 37 (0, 0))) ∧ Aside0 (Below w.heap.size w wr))
      case atStart => exact ⟨0, o, rfl, Nat.zero_le _, Nat.le_refl _, HG, HO, B4, HBw⟩
      case round =>
        clear HG HO B4 HBw
        obtain ⟨j, o, rfl, hjn, hkj, HG, HO, B4, HBw⟩ := hrel
        by_cases hjl : j < l.length
        · have hjz : (j : Int) < (l.length : Int) := by omega
          obtain ⟨ae, e, q0, q1⟩ := at_T30 (Kd.C_below HC2.out HBw.out) j (by omega) (by omega)
          subst e
          have hrow : rd_T30 l j = l[j] := by
            unfold rd_T30
            rw [Int.toNat_natCast, List.getD_eq_getElem?_getD, List.getElem?_eq_getElem hjl]
            rfl
          rw [hrow] at q0 q1
          rw [Int.toNat_natCast] at q0 q1
          have hG := HG.out
          rw [List.drop_eq_getElem_cons hjl] at hG
          have hG2 : G = row30 (l.drop (j + 1)) (addB o l[j].f0 l[j].f1) := hG
          have HG2 := Aside0.mk hG2
          clear hG hG2 HG hrow
          generalize l[j] = x at *
          go_upto_region 8 with fail
          have hbk := blk_new wr (.cells #[.int .i64 x.f0, .int .i64 x.f1] 30)
          have r0 : (wr.alloc (.cells #[.int .i64 x.f0, .int .i64 x.f1] 30)).cell? ⟨wr.heap.size, 0, none⟩ = some (.int .i64 x.f0) := (blk_cell hbk 0).trans rfl
          have r1 : (wr.alloc (.cells #[.int .i64 x.f0, .int .i64 x.f1] 30)).cell? ⟨wr.heap.size, 1, none⟩ = some (.int .i64 x.f1) := (blk_cell hbk 1).trans rfl
          have HBk := Aside0.mk (below_alloc HBw.out (.cells #[.int .i64 x.f0, .int .i64 x.f1] 30))
          have HOk := Aside0.mk (HO.out.keep (below_alloc (Below.refl _ _) (.cells #[.int .i64 x.f0, .int .i64 x.f1] 30)))
          have B4k := Aside0.mk (blk_alloc B4.out (.cells #[.int .i64 x.f0, .int .i64 x.f1] 30))
          clear hbk HO B4 HBw q0 q1
          generalize wr.alloc (.cells #[.int .i64 x.f0, .int .i64 x.f1] 30) = wk at *
          generalize wr.heap.size = gx at *
          go_wp2_with (first | (go_at_call 89; ((with_reducible refine Calls.mono (heldS_at x) ?_); rintro e w6 ⟨rfl, hb6⟩; have HB6 := Aside0.mk (below_then HBk.out HBk.out.size hb6); have HO6 := Aside0.mk (HOk.out.keep hb6); have B46 := Aside0.mk (blk_below B4k.out hb6); clear hb6)) | (go_at_call 55; ((with_reducible refine Calls.mono (add_any HO6.out) ?_); rintro e w7 ⟨rfl, ho7, hb7⟩; have HO7 := Aside0.mk ho7; have HB7 := Aside0.mk (HB6.out.trans (hb7.mono (by have := HP.out.1; have := HG4.out; omega))); have B47 := Aside0.mk ((hb7.block g4 (by have := HP.out; omega)).trans B46.out); clear ho7 hb7)))
          go_roundg (l.length - (j + 1))
          case measure => omega
          case rel => exact ⟨j + 1, _, by go_num, by omega, Nat.le_refl _, HG2, HO7, B47, HB7⟩
        · have hjz : ¬ (j : Int) < (l.length : Int) := by omega
          have hje : j = l.length := by omega
          have hG := HG.out
          rw [hje, List.drop_length] at hG
          have hG2 : G = o := hG
          subst hG2
          go_wp2
          go_roundg (xs.length - (i + 1))
          case measure => omega
          case rel => exact ⟨i + 1, G, by go_num, by omega, Nat.le_refl _, HF2, HO, B4, HBw⟩
    · have hltz : ¬ (i : Int) < (xs.length : Int) := by omega
      have hie : i = xs.length := by omega
      have hF := HF.out
      rw [hie, List.drop_length] at hF
      have hF2 : F = o := hF
      subst hF2
      obtain ⟨x0, y0, x1, y1, s, hb, hv, hs⟩ := HO.out.some_
      have hb' : wr.heap[p]? = some (.cells #[.int .i64 x0, .int .i64 y0, .int .i64 x1, .int .i64 y1, .bool s] 107 (0, 0)) := hb
      have c0 : wr.cell? ⟨p, 0, none⟩ = some (.int .i64 x0) := (blk_cell hb' 0).trans rfl
      have c1 : wr.cell? ⟨p, 1, none⟩ = some (.int .i64 y0) := (blk_cell hb' 1).trans rfl
      have c2 : wr.cell? ⟨p, 2, none⟩ = some (.int .i64 x1) := (blk_cell hb' 2).trans rfl
      have c3 : wr.cell? ⟨p, 3, none⟩ = some (.int .i64 y1) := (blk_cell hb' 3).trans rfl
      have c4 : wr.cell? ⟨p, 4, none⟩ = some (.bool s) := (blk_cell hb' 4).trans rfl
      have k0 : wr.cell? ⟨g4, 0, none⟩ = some (.int .i64 0) := (blk_cell B4.out 0).trans rfl
      have k1 : wr.cell? ⟨g4, 1, none⟩ = some (.int .i64 0) := (blk_cell B4.out 1).trans rfl
      have k2 : wr.cell? ⟨g4, 2, none⟩ = some (.int .i64 0) := (blk_cell B4.out 2).trans rfl
      have k3 : wr.cell? ⟨g4, 3, none⟩ = some (.int .i64 0) := (blk_cell B4.out 3).trans rfl
      have f0 := blk_frozen B4.out 0
      have f1 := blk_frozen B4.out 1
      have f2 := blk_frozen B4.out 2
      have f3 := blk_frozen B4.out 3
      have hne := HP.out.2
      have hne2 : p ≠ g4 := fun e => hne e.symm
      clear hb hb'
      go_wp2
      go_region
      go_wp2
      have e1 := blk_put (cs := #[.int .i64 0, .int .i64 0, .int .i64 0, .int .i64 0]) B4.out 0 (.int .i64 x0) rfl
      have e2 := blk_put (cs := #[.int .i64 x0, .int .i64 0, .int .i64 0, .int .i64 0]) e1 1 (.int .i64 y0) rfl
      have e3 := blk_put (cs := #[.int .i64 x0, .int .i64 y0, .int .i64 0, .int .i64 0]) e2 2 (.int .i64 x1) rfl
      have e4 := blk_put (cs := #[.int .i64 x0, .int .i64 y0, .int .i64 x1, .int .i64 0]) e3 3 (.int .i64 y1) rfl
      have hg : w.heap.size ≤ g4 := by have := HG4.out; omega
      have HBe : Aside0 (Below w.heap.size w ((((wr.setCell ⟨g4, 0, none⟩ (.int .i64 x0)).setCell ⟨g4, 1, none⟩ (.int .i64 y0)).setCell ⟨g4, 2, none⟩ (.int .i64 x1)).setCell ⟨g4, 3, none⟩ (.int .i64 y1)).drew) := ⟨((((HBw.out.setCell hg _).setCell hg _).setCell hg _).setCell hg _).drew⟩
      have e5 : ((((wr.setCell ⟨g4, 0, none⟩ (.int .i64 x0)).setCell ⟨g4, 1, none⟩ (.int .i64 y0)).setCell ⟨g4, 2, none⟩ (.int .i64 x1)).setCell ⟨g4, 3, none⟩ (.int .i64 y1)).drew.heap[g4]? = some (.cells #[.int .i64 x0, .int .i64 y0, .int .i64 x1, .int .i64 y1] 37 (0, 0)) := e4
      clear c0 c1 c2 c3 c4 k0 k1 k2 k3 f0 f1 f2 f3 e1 e2 e3 e4 hg
      generalize ((((wr.setCell ⟨g4, 0, none⟩ (.int .i64 x0)).setCell ⟨g4, 1, none⟩ (.int .i64 y0)).setCell ⟨g4, 2, none⟩ (.int .i64 x1)).setCell ⟨g4, 3, none⟩ (.int .i64 y1)).drew = we at *
      have z0 : we.cell? ⟨g4, 0, none⟩ = some (.int .i64 x0) := (blk_cell e5 0).trans rfl
      have z1 : we.cell? ⟨g4, 1, none⟩ = some (.int .i64 y0) := (blk_cell e5 1).trans rfl
      have z2 : we.cell? ⟨g4, 2, none⟩ = some (.int .i64 x1) := (blk_cell e5 2).trans rfl
      have z3 : we.cell? ⟨g4, 3, none⟩ = some (.int .i64 y1) := (blk_cell e5 3).trans rfl
      refine bodyPost_ret (by simp [results, Try.results88, go_sem, z0, z1, z2, z3]; try rfl) rfl ?_
      exact ⟨by rw [hv, hs], HBe.out⟩
set_option maxHeartbeats 4000000 in
set_option maxRecDepth 100000 in
theorem bounds_any {w : World} {A : Option Addr} {c : Nat} {xs : List (List S30)} (hC : Kd.C (Kd.slice 30 k30) w A xs.length xs) (hl : xs.length < 4000000000000) (hx : ∀ c ∈ xs, c.length < 4000000000000) :
    Calls Try.prog 42 #[.slice A xs.length c] w fun e w' => e = .returned (.tuple #[obV (all30 xs none), .bool (all30 xs none).isSome]) ∧ Below w.heap.size w w' := by
  have HC := Aside0.mk hC
  have HX := Aside0.mk hx
  clear hC hx
  obtain ⟨F, hF⟩ : ∃ z, z = all30 xs none := ⟨_, rfl⟩
  rw [← hF]
  have HF := Aside0.mk hF
  clear hF
  obtain ⟨x0, y0, x1, y1, s, hv, hs⟩ : ∃ x0 y0 x1 y1 s, obV F = .agg #[.int .i64 x0, .int .i64 y0, .int .i64 x1, .int .i64 y1] ∧ F.isSome = s := by
    cases F with
    | none => exact ⟨_, _, _, _, _, rfl, rfl⟩
    | some B => exact ⟨_, _, _, _, _, rfl, rfl⟩
  rw [hv, hs]
  have hcon := heldS_any (c := c) (Kd.C_below HC.out (below_alloc (Below.refl w.heap.size w) (.cells #[.int .i64 0, .int .i64 0, .int .i64 0, .int .i64 0] 37))) hl HX.out
  rw [← HF.out, hv, hs] at hcon
  have HCon := Aside0.mk hcon
  have b0 := Aside0.mk (blk_new w (.cells #[.int .i64 0, .int .i64 0, .int .i64 0, .int .i64 0] 37))
  have HB0 := Aside0.mk (below_alloc (Below.refl w.heap.size w) (.cells #[.int .i64 0, .int .i64 0, .int .i64 0, .int .i64 0] 37))
  clear hcon hv hs HC
  go_enter Try.func42, Try.ntmps42
  go_upto_region 1 with fail
  obtain ⟨g, hg⟩ : ∃ g, g = w.heap.size := ⟨_, rfl⟩
  obtain ⟨V, hV⟩ : ∃ V, V = w.alloc (.cells #[.int .i64 0, .int .i64 0, .int .i64 0, .int .i64 0] 37) := ⟨_, rfl⟩
  rw [← hV, ← hg] at b0
  rw [← hV] at HB0 HCon ⊢
  rw [← hg] at ⊢
  have HG := Aside0.mk hg
  clear hg hV
  go_wp2_with (go_at_call 88; ((with_reducible refine Calls.mono HCon.out ?_); rintro e w6 ⟨rfl, hb6⟩; have B6 := Aside0.mk (blk_below b0.out hb6); have HB6 := Aside0.mk (below_then HB0.out HB0.out.size hb6); have k0 : w6.cell? ⟨g, 0, none⟩ = some (.int .i64 0) := (blk_cell B6.out 0).trans rfl; have k1 : w6.cell? ⟨g, 1, none⟩ = some (.int .i64 0) := (blk_cell B6.out 1).trans rfl; have k2 : w6.cell? ⟨g, 2, none⟩ = some (.int .i64 0) := (blk_cell B6.out 2).trans rfl; have k3 : w6.cell? ⟨g, 3, none⟩ = some (.int .i64 0) := (blk_cell B6.out 3).trans rfl; have f0 := blk_frozen B6.out 0; have f1 := blk_frozen B6.out 1; have f2 := blk_frozen B6.out 2; have f3 := blk_frozen B6.out 3; clear hb6))
  have e1 := blk_put (cs := #[.int .i64 0, .int .i64 0, .int .i64 0, .int .i64 0]) B6.out 0 (.int .i64 x0) rfl
  have e2 := blk_put (cs := #[.int .i64 x0, .int .i64 0, .int .i64 0, .int .i64 0]) e1 1 (.int .i64 y0) rfl
  have e3 := blk_put (cs := #[.int .i64 x0, .int .i64 y0, .int .i64 0, .int .i64 0]) e2 2 (.int .i64 x1) rfl
  have e4 := blk_put (cs := #[.int .i64 x0, .int .i64 y0, .int .i64 x1, .int .i64 0]) e3 3 (.int .i64 y1) rfl
  have hg : w.heap.size ≤ g := by have := HG.out; omega
  have HBe : Aside0 (Below w.heap.size w ((((w6.setCell ⟨g, 0, none⟩ (.int .i64 x0)).setCell ⟨g, 1, none⟩ (.int .i64 y0)).setCell ⟨g, 2, none⟩ (.int .i64 x1)).setCell ⟨g, 3, none⟩ (.int .i64 y1))) := ⟨((((HB6.out.setCell hg _).setCell hg _).setCell hg _).setCell hg _)⟩
  clear hg k0 k1 k2 k3 f0 f1 f2 f3 e1 e2 e3
  generalize (((w6.setCell ⟨g, 0, none⟩ (.int .i64 x0)).setCell ⟨g, 1, none⟩ (.int .i64 y0)).setCell ⟨g, 2, none⟩ (.int .i64 x1)).setCell ⟨g, 3, none⟩ (.int .i64 y1) = we at *
  have z0 : we.cell? ⟨g, 0, none⟩ = some (.int .i64 x0) := (blk_cell e4 0).trans rfl
  have z1 : we.cell? ⟨g, 1, none⟩ = some (.int .i64 y0) := (blk_cell e4 1).trans rfl
  have z2 : we.cell? ⟨g, 2, none⟩ = some (.int .i64 x1) := (blk_cell e4 2).trans rfl
  have z3 : we.cell? ⟨g, 3, none⟩ = some (.int .i64 y1) := (blk_cell e4 3).trans rfl
  refine bodyPost_ret (by simp [results, Try.results42, go_sem, z0, z1, z2, z3]; try rfl) rfl ?_
  exact ⟨rfl, HBe.out⟩
end Go.Proofs.Yteoonjnmghponaa.H
