/- Package bidi: plain laws of classes and matches. Package runs: plain law of Scripts; runs that follow one another. Package bidi: the order of the places: two rows in memory, a part of one reversed. Package bidi: the order of the places, walked: each just once. -/
import Derived.Test.YteoonjnmghponaaZBda
import Derived.Test.YteoonjnmghponaaZUb
import Derived.Test.YteoonjnmghponaaZPx4
import Derived.Test.YteoonjnmghponaaZPx7
import Derived.Test.YteoonjnmghponaaZBia
import Derived.Shelf.Slices.Cells
import Derived.Ground.NamesProg
import Derived.Test.YteoonjnmghponaaZPx0
namespace Go.Proofs.Yteoonjnmghponaa.F
open Go.RowKit Go.Proofs.YteoonjnmghponaaW.PrintWords Go.Proofs.YteoonjnmghponaaW.PrintLast Go.Proofs.YteoonjnmghponaaW.PrintMore
set_option linter.unusedVariables false
set_option linter.unusedSimpArgs false
theorem rdset {xs : List Int} {z c j : Int} (h0 : 0 ≤ z) (h1 : z < xs.length) (hj : 0 ≤ j) : rd (xs.set z.toNat c) j = if j = z then c else rd xs j := by
 unfold rd
 rw [List.getD_eq_getElem?_getD, List.getD_eq_getElem?_getD]
 by_cases h : j = z
 ·subst h
  rw [if_pos rfl, List.getElem?_set_self (by omega)]
  rfl
 ·rw [if_neg h, List.getElem?_set_ne (by omega)]
theorem classes_l0 (l : List Int) (hn : l.length ≤ 16384) : ∀ (m : Nat) (x : Int) (xs : List Int), xs.length = l.length → 0 ≤ x → (l.length : Int) - x ≤ m → ∃ r, P.bidi_classes.l0 (m + 1) xs l (l.length : Int) x = some r ∧ r.length = l.length := by
 intro m
 induction m with
 | zero =>
  intro x xs hl hx hm
  unfold P.bidi_classes.l0
  rw [if_neg (by omega)]
  exact ⟨_, rfl, hl⟩
 | succ m ih =>
  intro x xs hl hx hm
  unfold P.bidi_classes.l0
  by_cases h : x < (l.length : Int)
  ·rw [if_pos h, if_pos hx, if_pos h]
   show ∃ r, ((some (lookT (rd l x))).bind _) = some r ∧ _
   rw [Option.bind_some, if_pos (by omega), w64 (by omega) (by omega)]
   exact ih (x + 1) _ (by rw [List.length_set]; exact hl) (by omega) (by omega)
  ·rw [if_neg h]
   exact ⟨_, rfl, hl⟩
theorem classes_some (l : List Int) (hn : l.length ≤ 16384) : ∃ k r, P.bidi_classes.f k l = some r ∧ r.length = l.length := by
 obtain ⟨r, h1, h2⟩ := classes_l0 l hn l.length 0 (List.replicate ((l.length : Int)).toNat 0) (by simp) (by omega) (by omega)
 refine ⟨l.length + 1, r, ?_, h2⟩
 unfold P.bidi_classes.f
 rw [if_pos (by omega), if_pos (by omega)]
 exact h1
theorem clone_some (l : List Int) (hn : l.length ≤ 16384) : slices_Clone_int_int.f l = some l := by
 unfold slices_Clone_int_int.f
 rw [Option.bind_some, if_pos (by simp; omega)]
 rfl
/-- What holds of the places told off so far. -/
structure Ma (cs xs op : List Int) (i : Int) : Prop where
 len : xs.length = cs.length
 up : ∀ j : Int, 0 ≤ j → j < cs.length → rd xs j < cs.length
 ok : ∀ j : Int, 0 ≤ j → j < i → P.bidi_opener.f (rd cs j) = some true → rd xs j < 0 ∨ j < rd xs j
 iop : ∀ z ∈ op, 0 ≤ z ∧ z < i
 lop : (op.length : Int) ≤ i
theorem matches_l0 (cs : List Int) (hn : cs.length ≤ 16384) : ∀ (m : Nat) (i : Int) (xs op : List Int), Ma cs xs op i → 0 ≤ i → (cs.length : Int) - i ≤ m → ∃ r, P.bidi_matches.l0 (m + 1) xs op cs (cs.length : Int) i = some r ∧ ∃ op' i', (cs.length : Int) ≤ i' ∧ Ma cs r op' i' := by
 intro m
 induction m with
 | zero =>
  intro i xs op h hi hm
  unfold P.bidi_matches.l0
  rw [if_neg (by omega)]
  exact ⟨_, rfl, op, i, by omega, h⟩
 | succ m ih =>
  intro i xs op h hi hm
  unfold P.bidi_matches.l0
  by_cases hlt : i < (cs.length : Int)
  ·have hxl := h.len
   have hix : i < (xs.length : Int) := by omega
   rw [if_pos hlt, if_pos hi, if_pos hlt, if_pos hix, Option.bind_some]
   obtain ⟨y, hy⟩ := opener_some (rd cs i)
   rw [hy, Option.bind_some]
   have hlop := h.lop
   have step : ∀ op', (∀ z ∈ op', 0 ≤ z ∧ z < i + 1) → ((op'.length : Int) ≤ i + 1) → Ma cs (xs.set i.toNat (-1)) op' (i + 1) := fun op' h1 h2 => ⟨by rw [List.length_set]; exact h.len, fun j hj0 hj1 => by
     rw [rdset hi hix hj0]
     by_cases e : j = i
     ·rw [if_pos e]; omega
     ·rw [if_neg e]; exact h.up j hj0 hj1, fun j hj0 hj1 ho => by
     rw [rdset hi hix hj0]
     by_cases e : j = i
     ·rw [if_pos e]; left; omega
     ·rw [if_neg e]; exact h.ok j hj0 (by omega) ho, h1, h2⟩
   have keep : ∀ z ∈ op, 0 ≤ z ∧ z < i + 1 := fun z hz => by have := h.iop z hz; omega
   cases y
   ·rw [if_neg (by decide)]
    by_cases h10 : rd cs i = 10
    ·rw [if_pos h10, w64 (by omega) (by omega)]
     exact ih (i + 1) _ _ (step [] (by simp) (by simp; omega)) (by omega) (by omega)
    ·rw [if_neg h10]
     by_cases h22 : rd cs i = 22
     ·rw [if_pos h22]
      by_cases hp : (op.length : Int) > 0
      ·rw [if_pos hp, w64 (x := (op.length : Int) - 1) (by omega) (by omega), if_pos (by omega), if_pos (by omega)]
       have hz := h.iop _ (rd_in (l := op) (x := (op.length : Int) - 1) (by omega) (by omega))
       generalize rd op ((op.length : Int) - 1) = z at *
       rw [if_pos hz.1, if_pos (by omega), if_pos (by omega), w64 (x := i + 1) (by omega) (by omega)]
       refine ih (i + 1) _ _ ⟨by rw [List.length_set, List.length_set, List.length_set]; exact h.len, fun j hj0 hj1 => ?_, fun j hj0 hj1 ho => ?_, fun z' hz' => keep z' (List.mem_of_mem_take hz'), by rw [List.length_take]; omega⟩ (by omega) (by omega)
       ·have hl1 : z < ((xs.set i.toNat (-1)).set i.toNat z).length := by rw [List.length_set, List.length_set]; omega
        rw [rdset hz.1 hl1 hj0]
        by_cases e : j = z
        ·rw [if_pos e]; omega
        ·rw [if_neg e, rdset hi (by rw [List.length_set]; omega) hj0]
         by_cases e2 : j = i
         ·rw [if_pos e2]; omega
         ·rw [if_neg e2, rdset hi hix hj0, if_neg e2]; exact h.up j hj0 hj1
       ·have hl1 : z < ((xs.set i.toNat (-1)).set i.toNat z).length := by rw [List.length_set, List.length_set]; omega
        rw [rdset hz.1 hl1 hj0]
        by_cases e : j = z
        ·rw [if_pos e]; right; omega
        ·rw [if_neg e, rdset hi (by rw [List.length_set]; omega) hj0]
         by_cases e2 : j = i
         ·subst e2
          rw [h22] at ho
          exact absurd ho (by decide)
         ·rw [if_neg e2, rdset hi hix hj0, if_neg e2]; exact h.ok j hj0 (by omega) ho
      ·rw [if_neg hp, w64 (by omega) (by omega)]
       exact ih (i + 1) _ _ (step op keep (by omega)) (by omega) (by omega)
     ·rw [if_neg h22, w64 (by omega) (by omega)]
      exact ih (i + 1) _ _ (step op keep (by omega)) (by omega) (by omega)
   ·rw [if_pos rfl, if_pos (by omega), w64 (by omega) (by omega)]
    refine ih (i + 1) _ _ (step (op ++ [i]) (fun z hz => ?_) (by simp; omega)) (by omega) (by omega)
    rcases List.mem_append.mp hz with hz | hz
    ·exact keep z hz
    ·rw [List.mem_singleton.mp hz]; omega
  ·rw [if_neg hlt]
   exact ⟨_, rfl, op, i, by omega, h⟩
theorem rd_rep (n : Nat) (j : Int) : rd (List.replicate n 0) j = 0 := by
 unfold rd
 rw [List.getD_eq_getElem?_getD, List.getElem?_replicate]
 split <;> rfl
theorem matches_some (cs : List Int) (hn : cs.length ≤ 16384) : ∃ k r, P.bidi_matches.f k cs = some r ∧ r.length = cs.length ∧ (∀ i : Int, 0 ≤ i → i < cs.length → P.bidi_opener.f (rd cs i) = some true → rd r i < 0 ∨ i < rd r i) ∧ ∀ i : Int, 0 ≤ i → i < cs.length → rd r i < cs.length := by
 obtain ⟨r, h1, op', i', h2, h3⟩ := matches_l0 cs hn cs.length 0 (List.replicate ((cs.length : Int)).toNat 0) [] ⟨by simp, fun j h0 h1 => by rw [rd_rep]; omega, fun j h0 h1 => by omega, by simp, by simp⟩ (by omega) (by omega)
 refine ⟨cs.length + 1, r, ?_, h3.len, fun i h0 h1 => h3.ok i h0 (by omega), h3.up⟩
 unfold P.bidi_matches.f
 rw [if_pos (by omega), if_pos (by omega)]
 exact h1
end Go.Proofs.Yteoonjnmghponaa.F
namespace Go.Proofs.Yteoonjnmghponaa.F
open Go.RowKit Go.Proofs.YteoonjnmghponaaW.PrintWords Go.Proofs.YteoonjnmghponaaW.PrintLast Go.Proofs.YteoonjnmghponaaW.PrintMore
set_option linter.unusedVariables false
set_option linter.unusedSimpArgs false
theorem own_some (c : Int) : ∃ b, P.runs_own.f c = some b := by
 unfold P.runs_own.f
 repeat' split
 all_goals exact ⟨_, rfl⟩
theorem scripts_l1 (l : List Int) (hn : l.length ≤ 16384) (m : Nat) (s x : Int) (hx : 0 ≤ x) (hxl : x < l.length) (ih : ∀ (xs : List Int), xs.length = l.length → ∃ k r, P.runs_Scripts.l0 k l xs s (l.length : Int) (x + 1) = some r ∧ r.length = l.length) :
  ∀ (d : Nat) (z : Int) (xs : List Int), xs.length = l.length → 0 ≤ z → z ≤ x → x - z ≤ d → ∃ k r, P.runs_Scripts.l1 k l xs x s (l.length : Int) x x z = some r ∧ r.length = l.length := by
 intro d
 induction d with
 | zero =>
  intro z xs hl hz hzx hd
  obtain ⟨k, r, h1, h2⟩ := ih (xs.set x.toNat s) (by rw [List.length_set]; exact hl)
  refine ⟨k + 1, r, ?_, h2⟩
  unfold P.runs_Scripts.l1
  rw [if_neg (by omega), if_pos hx, if_pos (by omega), w64 (by omega) (by omega)]
  exact h1
 | succ d ihd =>
  intro z xs hl hz hzx hd
  by_cases h : z < x
  ·obtain ⟨k, r, h1, h2⟩ := ihd (z + 1) (xs.set z.toNat s) (by rw [List.length_set]; exact hl) (by omega) (by omega) (by omega)
   refine ⟨k + 1, r, ?_, h2⟩
   unfold P.runs_Scripts.l1
   rw [if_pos h, if_pos hz, if_pos (by omega), w64 (by omega) (by omega)]
   exact h1
  ·obtain ⟨k, r, h1, h2⟩ := ih (xs.set x.toNat s) (by rw [List.length_set]; exact hl)
   refine ⟨k + 1, r, ?_, h2⟩
   unfold P.runs_Scripts.l1
   rw [if_neg h, if_pos hx, if_pos (by omega), w64 (by omega) (by omega)]
   exact h1
theorem scripts_l0 (l : List Int) (hn : l.length ≤ 16384) : ∀ (m : Nat) (x : Int) (xs : List Int) (x4 : Int), xs.length = l.length → 0 ≤ x → (l.length : Int) - x ≤ m → ∃ k r, P.runs_Scripts.l0 k l xs x4 (l.length : Int) x = some r ∧ r.length = l.length := by
 intro m
 induction m with
 | zero =>
  intro x xs x4 hl hx hm
  refine ⟨1, xs, ?_, hl⟩
  unfold P.runs_Scripts.l0
  rw [if_neg (by omega)]
 | succ m ih =>
  intro x xs x4 hl hx hm
  by_cases h : x < (l.length : Int)
  ·obtain ⟨y, hy⟩ := own_some (lookT (rd l x)).1
   have key : ∀ k, P.runs_Scripts.l0 (k + 1) l xs x4 (l.length : Int) x = (if y = true then (if x4 = 0 then (P.runs_Scripts.l1 k l xs x (lookT (rd l x)).1 (l.length : Int) x x 0) else (P.runs_Scripts.l0 k l (xs.set x.toNat (lookT (rd l x)).1) (lookT (rd l x)).1 (l.length : Int) (x + 1))) else (P.runs_Scripts.l0 k l (xs.set x.toNat x4) x4 (l.length : Int) (x + 1))) := by
    intro k
    rw [P.runs_Scripts.l0]
    rw [if_pos h, if_pos hx, if_pos h]
    show ((some (lookT (rd l x))).bind _) = _
    rw [Option.bind_some, hy, Option.bind_some, if_pos (show x < (xs.length : Int) by omega), if_pos (show x < (xs.length : Int) by omega), w64 (by omega) (by omega)]
   cases y
   ·obtain ⟨k, r, h1, h2⟩ := ih (x + 1) (xs.set x.toNat x4) x4 (by rw [List.length_set]; exact hl) (by omega) (by omega)
    exact ⟨k + 1, r, by rw [key, if_neg (by decide)]; exact h1, h2⟩
   ·by_cases h4 : x4 = 0
    ·obtain ⟨k, r, h1, h2⟩ := scripts_l1 l hn m (lookT (rd l x)).1 x hx h (fun xs' hl' => ih (x + 1) xs' _ hl' (by omega) (by omega)) x.toNat 0 xs hl (by omega) hx (by omega)
     exact ⟨k + 1, r, by rw [key, if_pos rfl, if_pos h4]; exact h1, h2⟩
    ·obtain ⟨k, r, h1, h2⟩ := ih (x + 1) (xs.set x.toNat (lookT (rd l x)).1) (lookT (rd l x)).1 (by rw [List.length_set]; exact hl) (by omega) (by omega)
     exact ⟨k + 1, r, by rw [key, if_pos rfl, if_neg h4]; exact h1, h2⟩
  ·refine ⟨1, xs, ?_, hl⟩
   unfold P.runs_Scripts.l0
   rw [if_neg h]
theorem scripts_some (l : List Int) (hn : l.length ≤ 16384) : ∃ k r, P.runs_Scripts.f k l = some r ∧ r.length = l.length := by
 obtain ⟨k, r, h1, h2⟩ := scripts_l0 l hn l.length 0 (List.replicate ((l.length : Int)).toNat 0) 0 (by simp) (by omega) (by omega)
 refine ⟨k, r, ?_, h2⟩
 unfold P.runs_Scripts.f
 rw [if_pos (by omega), if_pos (by omega)]
 exact h1
/-- A run. -/
structure Ru where
 f0 : Int
 f1 : Int
 f2 : Int
 f3 : Int
def zRu : Ru := ⟨0, 0, 0, 0⟩
def kRu : Kd Ru := Kd.iso (Kd.pair (Kd.int .i64) (Kd.pair (Kd.int .i64) (Kd.pair (Kd.int .i64) (Kd.int .i64)))) (fun x : Ru => (x.f0, x.f1, x.f2, x.f3))
theorem kRu_open {w : World} {x : Ru} {cs : List Value} (h : kRu.K w x cs) : cs = [.int .i64 x.f0, .int .i64 x.f1, .int .i64 x.f2, .int .i64 x.f3] := by
 obtain ⟨_, _, rfl, rfl, ⟨_, _, rfl, rfl, ⟨_, _, rfl, rfl, rfl⟩⟩⟩ := h
 exact rfl
theorem kRu_openM {w : World} {base : Nat} {ok : Nat → Prop} {x : Ru} {cs : List Value} (h : kRu.M w base ok x cs) : cs = [.int .i64 x.f0, .int .i64 x.f1, .int .i64 x.f2, .int .i64 x.f3] := by
 obtain ⟨_, _, rfl, rfl, ⟨_, _, rfl, rfl, ⟨_, _, rfl, rfl, rfl⟩⟩⟩ := h
 exact rfl
theorem kRu_mkM (w : World) (base : Nat) (ok : Nat → Prop) (x : Ru) : kRu.M w base ok x [.int .i64 x.f0, .int .i64 x.f1, .int .i64 x.f2, .int .i64 x.f3] := ⟨[.int .i64 x.f0], _, rfl, rfl, ⟨[.int .i64 x.f1], _, rfl, rfl, ⟨[.int .i64 x.f2], [.int .i64 x.f3], rfl, rfl, rfl⟩⟩⟩
theorem infoRu : (Try.prog.info? 54).map (fun i => (i.zero, i.size, i.bytes)) = some (some (.agg #[(.int .i64 0), (.int .i64 0), (.int .i64 0), (.int .i64 0)]), 4, 32) := by kernel_rfl
/-- Runs that follow one another, from a to b. -/
def Cov : Int → List Ru → Int → Prop
 | a, [], b => a = b
 | a, r :: rs, b => r.f0 = a ∧ a < r.f1 ∧ Cov r.f1 rs b
theorem Cov.le : ∀ {rs : List Ru} {a b : Int}, Cov a rs b → a ≤ b
 | [], a, b, h => Int.le_of_eq h
 | r :: rs, a, b, h => Int.le_trans (Int.le_of_lt h.2.1) h.2.2.le
theorem Cov.app : ∀ {rs : List Ru} {a b c : Int} {x y : Int}, Cov a rs b → b < c → Cov a (rs ++ [⟨b, c, x, y⟩]) c
 | [], a, b, c, x, y, h, hc => by cases h; exact ⟨rfl, hc, rfl⟩
 | r :: rs, a, b, c, x, y, h, hc => ⟨h.1, h.2.1, h.2.2.app hc⟩
theorem Cov.last : ∀ {rs : List Ru} {r : Ru} {a b c : Int}, Cov a (rs ++ [r]) b → b ≤ c → Cov a (rs ++ [{ r with f1 := c }]) c
 | [], r, a, b, c, h, hc => ⟨h.1, by have h1 := h.2.1; have h2 : r.f1 = b := h.2.2; show a < c; omega, rfl⟩
 | q :: rs, r, a, b, c, h, hc => ⟨h.1, h.2.1, h.2.2.last hc⟩
end Go.Proofs.Yteoonjnmghponaa.F
namespace Go.Proofs
open Go.Shelf
def Try.revInt_ren : Go.Shelf.Ren := ⟨fun | 112 => 38 | n => n, fun | 28 => 42 | 3 => 3 | 4 => 4 | 0 => 0 | n => n, fun | n => n⟩
theorem Try.revInt : Go.Proofs.Lays.n112 Try.prog Try.revInt_ren := {
 mixed := by kernel_rfl
 f112 := Try.func38.trans (congrArg some (by kernel_rfl))
 t0 := Try.underlying0
 a0 := Try.isAgg0
 z0 := Try.sizeOf0
 v0 := Try.zeroValue0
 t3 := Try.underlying3
 a3 := Try.isAgg3
 z3 := Try.sizeOf3
 v3 := Try.zeroValue3
 t4 := Try.underlying4
 a4 := Try.isAgg4
 z4 := Try.sizeOf4
 v4 := Try.zeroValue4
 t28 := Try.underlying42
 a28 := Try.isAgg42
 z28 := Try.sizeOf42
 v28 := Try.zeroValue42 }
end Go.Proofs
namespace Go.Proofs.Yteoonjnmghponaa.F
open Go.RowKit Go.Proofs.YteoonjnmghponaaW.PrintWords Go.Proofs.YteoonjnmghponaaW.PrintLast Go.Proofs.YteoonjnmghponaaW.PrintMore
set_option linter.unusedVariables false
set_option linter.unusedSimpArgs false
/-- The two rows of Order. -/
structure Od (n : Nat) (w W : World) (go gl co cl : Nat) (xs ls : List Int) : Prop where
 be : Below w.heap.size w W
 o : Kd.R (Kd.int .i64) 3 W w.heap.size (· = go) (.slice (some ⟨go, 0, none⟩) n co) xs
 p : Kd.R (Kd.int .i64) 3 W w.heap.size (· = gl) (.slice (some ⟨gl, 0, none⟩) n cl) ls
 ne : go ≠ gl
 lx : xs.length = n
 lp : ls.length = n
 hgo : w.heap.size ≤ go
 hgl : w.heap.size ≤ gl
section
variable {n : Nat} {w W W' : World} {go gl co cl : Nat} {xs ls : List Int}
theorem Od.below (h : Od n w W go gl co cl xs ls) (hb : Below W.heap.size W W') : Od n w W' go gl co cl xs ls :=
 ⟨below_step h.be hb, Kd.R_below h.o hb, Kd.R_below h.p hb, h.ne, h.lx, h.lp, h.hgo, h.hgl⟩
theorem Od.drewN (h : Od n w W go gl co cl xs ls) (q : Nat) : Od n w (W.drewN q) go gl co cl xs ls := h.below (pw_below_drewN (Below.refl _ _) q)
theorem Od.setO (h : Od n w W go gl co cl xs ls) (z c : Int) : Od n w (W.setCell ⟨go, z.toNat, none⟩ (.int .i64 c)) go gl co cl (xs.set z.toNat c) ls := by
 have ho := h.o
 rw [← h.lx] at ho
 have := Kd.R_putn ho z c
 rw [h.lx] at this
 exact ⟨h.be.setCell h.hgo _, this, Kd.R_far (p := ⟨go, z.toNat, none⟩) h.p (fun k hk => by rw [hk]; exact h.ne.symm) _, h.ne, by rw [List.length_set]; exact h.lx, h.lp, h.hgo, h.hgl⟩
theorem Od.setP (h : Od n w W go gl co cl xs ls) (z c : Int) : Od n w (W.setCell ⟨gl, z.toNat, none⟩ (.int .i64 c)) go gl co cl xs (ls.set z.toNat c) := by
 have ho := h.p
 rw [← h.lp] at ho
 have := Kd.R_putn ho z c
 rw [h.lp] at this
 exact ⟨h.be.setCell h.hgl _, Kd.R_far (p := ⟨gl, z.toNat, none⟩) h.o (fun k hk => by rw [hk]; exact h.ne) _, this, h.ne, h.lx, by rw [List.length_set]; exact h.lp, h.hgo, h.hgl⟩
theorem Od.cellO (h : Od n w W go gl co cl xs ls) (z : Int) (h0 : 0 ≤ z) (h1 : z < n) : W.cell? ⟨go, z.toNat, none⟩ = some (.int .i64 (rdOf 0 xs z)) ∧ W.frozen? ⟨go, z.toNat, none⟩ = false := by
 have ho := h.o
 rw [← h.lx] at ho
 exact Kd.R_celln 0 ho z h0 (by rw [h.lx]; exact h1)
theorem Od.cellP (h : Od n w W go gl co cl xs ls) (z : Int) (h0 : 0 ≤ z) (h1 : z < n) : W.cell? ⟨gl, z.toNat, none⟩ = some (.int .i64 (rdOf 0 ls z)) ∧ W.frozen? ⟨gl, z.toNat, none⟩ = false := by
 have ho := h.p
 rw [← h.lp] at ho
 exact Kd.R_celln 0 ho z h0 (by rw [h.lp]; exact h1)
/-- A run of cells written. -/
theorem Od.puts : ∀ (vs : List Int) (off : Nat) (W : World) (xs : List Int), off + vs.length ≤ n → Od n w W go gl co cl xs ls → Od n w (W.setCells go off (vs.map (Value.int .i64))) go gl co cl (xs.take off ++ vs ++ xs.drop (off + vs.length)) ls
 | [], off, W, xs, hl, h => by
  simp only [List.length_nil, Nat.add_zero, List.append_nil, List.take_append_drop, List.map_nil]
  exact h
 | v :: vs, off, W, xs, hl, h => by
  have h1 := h.setO (off : Int) v
  rw [Int.toNat_natCast] at h1
  rw [List.length_cons] at hl
  have h2 := Od.puts vs (off + 1) _ _ (by omega) h1
  have hx : off < xs.length := by rw [h.lx]; omega
  have e1 : (xs.set off v).take (off + 1) = xs.take off ++ [v] := by
   rw [List.take_add_one, List.take_set, List.set_eq_of_length_le (by rw [List.length_take]; omega), List.getElem?_set_self hx]
   rfl
  have e2 : (xs.set off v).drop (off + 1 + vs.length) = xs.drop (off + (v :: vs).length) := by
   rw [List.drop_set_of_lt (by omega), List.length_cons]
   congr 1
   omega
  rw [e1, e2] at h2
  have e3 : xs.take off ++ [v] ++ vs ++ xs.drop (off + (v :: vs).length) = xs.take off ++ (v :: vs) ++ xs.drop (off + (v :: vs).length) := by simp
  rw [e3] at h2
  exact h2
end
theorem rev_any {n : Nat} {w W : World} {go gl co cl : Nat} {xs ls : List Int} (h : Od n w W go gl co cl xs ls) (a m c : Nat) (hm : a + m ≤ n) (hn : n ≤ 16384) :
  Calls Try.prog 38 #[.slice (some ⟨go, a, none⟩) m c] W fun e w' => e = .returned (.tuple #[]) ∧ ∃ xs', Od n w w' go gl co cl xs' ls ∧ xs'.Perm xs := by
 have hl := h.lx
 have hzl : ((xs.drop a).take m).length = m := by rw [List.length_take, List.length_drop]; omega
 have hcon := Any.slices_Reverse_int_cells Try.revInt go a m c ((xs.drop a).take m) W (by omega) (by omega) (fun j hj => by
   rw [hzl] at hj
   have := (h.cellO ((a + j : Nat) : Int) (by omega) (by omega)).1
   rw [Int.toNat_natCast] at this
   rw [this]
   congr 2
   unfold rdOf
   rw [Int.toNat_natCast, List.getD_eq_getElem?_getD, List.getD_eq_getElem?_getD, List.getElem?_take, if_pos hj, List.getElem?_drop]) (fun j hj => by
   have := (h.cellO ((a + j : Nat) : Int) (by omega) (by omega)).2
   rwa [Int.toNat_natCast] at this)
 refine Calls.mono hcon ?_
 rintro e w' ⟨rfl, q, rfl⟩
 have hrl : ((((xs.drop a).take m).take m).reverse).length = m := by rw [List.length_reverse, List.length_take, hzl]; omega
 have h1 := Od.puts (((xs.drop a).take m).take m).reverse a (W.drewN q) xs (by rw [hrl]; omega) (h.drewN q)
 refine ⟨rfl, _, h1, ?_⟩
 rw [hrl, List.take_take, Nat.min_self]
 have e : xs = xs.take a ++ (xs.drop a).take m ++ xs.drop (a + m) := by
  rw [List.append_assoc, ← List.drop_drop, List.take_append_drop, List.take_append_drop]
 calc (xs.take a ++ ((xs.drop a).take m).reverse ++ xs.drop (a + m)).Perm (xs.take a ++ (xs.drop a).take m ++ xs.drop (a + m)) := (List.Perm.append_left _ (List.reverse_perm _)).append_right _
  _ = xs := e.symm
end Go.Proofs.Yteoonjnmghponaa.F
namespace Go.Proofs.Yteoonjnmghponaa.F
open Go.RowKit Go.Proofs.YteoonjnmghponaaW.PrintWords Go.Proofs.YteoonjnmghponaaW.PrintLast Go.Proofs.YteoonjnmghponaaW.PrintMore
set_option linter.unusedVariables false
set_option linter.unusedSimpArgs false
/-- A new row's own block. -/
theorem own_form {W : World} {N n b : Nat} {v : Value} {xs : List Int} (h : Kd.R (Kd.int .i64) 3 W N (fun _ => True) v xs) (hb : v.ownBlock = some b) (hl : xs.length = n) : ∃ c, v = .slice (some ⟨b, 0, none⟩) n c ∧ Kd.R (Kd.int .i64) 3 W N (· = b) (.slice (some ⟨b, 0, none⟩) n c) xs := by
 obtain ⟨A, c, rfl⟩ := Kd.R_slice h
 cases A with
 | none => simp [Value.ownBlock] at hb
 | some ad =>
  obtain ⟨g, rfl⟩ := Kd.R_head h
  have : g = b := by simpa [Value.ownBlock] using hb
  subst this
  rw [hl] at h ⊢
  exact ⟨c, rfl, Kd.R_mono (Kd.R_tight rfl h) (fun k hk => by simpa [Value.ownBlock] using hk)⟩
def iota (n : Nat) : List Int := (List.range n).map Int.ofNat
theorem iota_of {xs : List Int} {n : Nat} (h : xs.length = n) (hx : ∀ j : Int, 0 ≤ j → j < n → rd xs j = j) : xs = iota n := by
 apply List.ext_getElem
 ·simp [iota, h]
 ·intro i h1 h2
  have := hx i (by omega) (by omega)
  unfold rd at this
  rw [Int.toNat_natCast, List.getD_eq_getElem?_getD, List.getElem?_eq_getElem h1] at this
  simp [iota]
  simpa using this
theorem rd_set {xs : List Int} {z c j : Int} (h0 : 0 ≤ z) (h1 : z < xs.length) (hj : 0 ≤ j) : rd (xs.set z.toNat c) j = if j = z then c else rd xs j := by
 unfold rd
 rw [List.getD_eq_getElem?_getD, List.getD_eq_getElem?_getD]
 by_cases h : j = z
 ·subst h
  rw [if_pos rfl, List.getElem?_set_self (by omega)]
  rfl
 ·rw [if_neg h, List.getElem?_set_ne (by omega)]
set_option maxRecDepth 100000 in
set_option maxHeartbeats 4000000 in
theorem order_any {A : Option Addr} {c : Nat} {l : List Int} {w : World} (hr : Kd.C (Kd.int .i64) w A l.length l) (hn : l.length ≤ 16384) :
  Calls Try.prog 15 #[.slice A l.length c] w fun e w' => ∃ v r, e = .returned v ∧ Kd.R (Kd.int .i64) 3 w' w.heap.size (fun _ => True) v r ∧ Below w.heap.size w w' ∧ r.Perm (iota l.length) := by
 have HR := Aside0.mk hr
 have hl0 : (0 : Int) ≤ l.length := Int.natCast_nonneg _
 have hl1 : (l.length : Int) ≤ 16384 := by omega
 clear hr
 go_enter Try.func15, Try.ntmps15
 go_upto_region 3 with (first | ((with_reducible refine gate_dst (N := 12) rfl ?_); refine Kd.R_make (Kd.int .i64) _ 3 rfl (N := 12) rfl 42 _ _ rfl (l.length : Int) rfl rfl Try.underlying42 (.int .i64 0) 8 P.info3 rfl (by decide) (by omega) 0 (ok := fun _ => True) (okp := fun _ => True) rfl (fun _ hk => hk) trivial hl0 (by omega) (Below.refl _ _) (Nat.le_refl _) ?_; intro v2 w2 ho2 hb2 hg2 hn2; have HO2 := Aside0.mk ho2; have HB2 := Aside0.mk hb2; have HN2 := Aside0.mk hn2; clear ho2 hb2 hg2 hn2) | ((with_reducible refine gate_dst (N := 15) rfl ?_); refine Kd.R_make (Kd.int .i64) _ 3 rfl (N := 15) rfl 42 _ _ rfl (l.length : Int) rfl rfl Try.underlying42 (.int .i64 0) 8 P.info3 rfl (by decide) (by omega) 0 (ok := fun _ => True) (okp := fun _ => True) rfl (fun _ hk => hk) trivial hl0 (by omega) (Below.refl _ _) (Nat.le_refl _) ?_; intro v3 w3 ho3 hb3 hg3 hn3; have HO3 := Aside0.mk ho3; have HB3 := Aside0.mk hb3; have HN3 := Aside0.mk hn3; clear ho3 hb3 hg3 hn3))
 obtain ⟨n, hnn⟩ : ∃ n, l.length = n := ⟨_, rfl⟩
 obtain ⟨go, e2, hgo⟩ := HN2.out
 obtain ⟨gl, e3, hgl⟩ := HN3.out
 have hz : (List.replicate (l.length : Int).toNat (0 : Int)).length = n := by simp [hnn]
 obtain ⟨co, rfl, ho⟩ := own_form HO2.out e2 hz
 obtain ⟨cl, rfl, hp⟩ := own_form HO3.out e3 hz
 have hglt := Kd.R_lt HO2.out go e2
 have HD : Aside0 (Od n w w3 go gl co cl (List.replicate (l.length : Int).toNat 0) (List.replicate (l.length : Int).toNat 0)) := ⟨⟨below_step HB2.out HB3.out, Kd.R_below ho HB3.out, Kd.R_lower hp HB2.out.size, by omega, hz, hz, hgo, Nat.le_trans HB2.out.size hgl⟩⟩
 clear ho hp hglt HN2 HN3 HO2 HO3 HB2 HB3 e2 e3 hz
 rw [hnn] at HR hl0 hl1 hn ⊢
 have HRX : Aside0 (Kd.C (Kd.int .i64) w A n l) := HR
 go_wp2
 go_loopw [18] (fun s18 wq => ∃ (k : Int) (xs ls : List Int), s18 = .int .i64 k ∧ Aside0 (0 ≤ k ∧ k ≤ n) ∧ Aside0 (Od n w wq go gl co cl xs ls) ∧ Aside0 (∀ j : Int, 0 ≤ j → j < k → rd xs j = j)) (fun s18 _ => (n - intOf s18).toNat)
 case atStart => exact ⟨0, _, _, rfl, ⟨by omega⟩, HD, ⟨fun j h0 h1 => by omega⟩⟩
 case round =>
  clear HD
  obtain ⟨k, xs, ls, rfl, HK, HS, HX⟩ := hrel
  have hk0 := HK.out.1
  have hk1 := HK.out.2
  by_cases hkn : k < n
  ·have hd : decide (k < n) = true := decide_eq_true hkn
   have HLT := Aside0.mk hkn
   have k9 : k < 9223372036854775807 := by omega
   obtain ⟨ad, had, hci⟩ := Kd.at_int (Kd.C_below HR.out HS.out.be) k hk0 hkn
   obtain ⟨g1, g2⟩ := HS.out.cellO k hk0 hkn
   obtain ⟨g3, g4⟩ := HS.out.cellP k hk0 hkn
   have hne := HS.out.ne
   have hne' := Ne.symm hne
   generalize rd l k = c1 at *
   rw [had]
   go_wp2
   exact ⟨⟨k + 1, _, _, rfl, ⟨by have := HLT.out; omega⟩, ⟨(HS.out.setO k k).setP k _⟩, ⟨fun j h0 h1 => by
    rw [rd_set hk0 (by rw [HS.out.lx]; exact HLT.out) h0]
    by_cases e : j = k
    ·rw [if_pos e]; exact e.symm
    ·rw [if_neg e]; exact HX.out j h0 (by omega)⟩⟩, by have := HLT.out; simp [intOf]; omega⟩
  ·have hd : decide (k < n) = false := decide_eq_false hkn
   have hxs : xs = iota n := iota_of HS.out.lx (fun j h0 h1 => HX.out j h0 (by omega))
   have HPm : Aside0 (xs.Perm (iota n)) := ⟨by rw [hxs]⟩
   clear hkn hxs HX hk0 hk1 HK
   go_wp2
   go_loopw [7] (fun s7 wq => ∃ (L : Int) (xs : List Int), s7 = .int .i64 L ∧ Aside0 (0 ≤ L ∧ L ≤ 126) ∧ Aside0 (Od n w wq go gl co cl xs ls) ∧ Aside0 (xs.Perm (iota n))) (fun s7 _ => (intOf s7).toNat)
   case atStart => exact ⟨126, xs, rfl, ⟨by omega⟩, HS, HPm⟩
   case round =>
    clear HS HPm
    obtain ⟨L, xs, rfl, HL, HS, HPm⟩ := hrel
    have hL0 := HL.out.1
    have hL1 := HL.out.2
    by_cases hL : 1 ≤ L
    ·have hdL : decide (1 ≤ L) = true := decide_eq_true hL
     have HL1 := Aside0.mk hL
     clear hL
     go_wp2
     go_loopw [8] (fun s8 wq => ∃ (a : Int) (xs : List Int), s8 = .int .i64 a ∧ Aside0 (0 ≤ a ∧ a ≤ n + 1) ∧ Aside0 (Od n w wq go gl co cl xs ls) ∧ Aside0 (xs.Perm (iota n))) (fun s8 _ => (n + 1 - intOf s8).toNat)
     case atStart => exact ⟨0, xs, rfl, ⟨by omega⟩, HS, HPm⟩
     case round =>
      clear HS HPm
      obtain ⟨a, xs, rfl, HA, HS, HPm⟩ := hrel
      have ha0 := HA.out.1
      have ha1 := HA.out.2
      by_cases han : a < n
      ·have hda : decide (a < n) = true := decide_eq_true han
       have HAN := Aside0.mk han
       obtain ⟨_, _, ho', hcap, _⟩ := Kd.R_reads HS.out.o
       have hcap' : n ≤ co := by cases ho'; rw [HS.out.lx] at hcap; exact hcap
       clear han hcap ho'
       go_wp2
       go_loopw [9] (fun s9 wq => ∃ (b : Int), s9 = .int .i64 b ∧ Aside0 (a ≤ b) ∧ Aside0 (b ≤ n) ∧ wq = wr) (fun s9 _ => (n - intOf s9).toNat)
       case atStart => exact ⟨a, rfl, ⟨Int.le_refl _⟩, ⟨by have := HAN.out; omega⟩, rfl⟩
       case round =>
        obtain ⟨b, rfl, HBa, HBn, rfl⟩ := hrel
        have hb0 : 0 ≤ b := by have := HBa.out; omega
        have hbn := HBn.out
        have b9 : b < 9223372036854775807 := by omega
        by_cases hbl : b < n
        ·have hdb : decide (b < n) = true := decide_eq_true hbl
         have HBL := Aside0.mk hbl
         obtain ⟨g1, g2⟩ := HS.out.cellP b hb0 hbl
         obtain ⟨d, hdd⟩ : ∃ d, decide (L ≤ rdOf 0 ls b) = d := ⟨_, rfl⟩
         generalize rdOf 0 ls b = lb at *
         cases d
         ·have hab : a ≤ b := HBa.out
          by_cases hlt : a < b
          ·have hdl : decide (a < b) = true := decide_eq_true hlt
           clear hlt
           go_wp2_with (go_at_call 38; ((with_reducible refine Calls.mono (rev_any HS.out a.toNat (b.toNat - a.toNat) _ (by omega) hn) ?_); rintro e w9 ⟨rfl, xs', hod, hpm⟩; have HS9 := Aside0.mk hod; have HP9 := Aside0.mk (hpm.trans HPm.out); clear hod hpm))
           exact ⟨⟨b + 1, _, rfl, ⟨by omega⟩, HS9, HP9⟩, by have := HAN.out; simp [intOf]; omega⟩
          ·have hdl : decide (a < b) = false := decide_eq_false hlt
           clear hlt
           go_wp2
           exact ⟨⟨a + 1, xs, rfl, ⟨by have := HAN.out; omega⟩, HS, HPm⟩, by have := HAN.out; simp [intOf]; omega⟩
         ·go_wp2
          exact ⟨⟨b + 1, rfl, ⟨by have := HBa.out; omega⟩, ⟨by have := HBL.out; omega⟩, by first | rfl | trivial⟩, by have := HBL.out; simp [intOf]; omega⟩
        ·have hdb : decide (b < n) = false := decide_eq_false hbl
         clear hbl
         have hab : a ≤ b := HBa.out
         have han := HAN.out
         by_cases hlt : a < b
         ·have hdl : decide (a < b) = true := decide_eq_true hlt
          clear hlt
          go_wp2_with (go_at_call 38; ((with_reducible refine Calls.mono (rev_any HS.out a.toNat (b.toNat - a.toNat) _ (by omega) hn) ?_); rintro e w9 ⟨rfl, xs', hod, hpm⟩; have HS9 := Aside0.mk hod; have HP9 := Aside0.mk (hpm.trans HPm.out); clear hod hpm))
          exact ⟨⟨b + 1, _, rfl, ⟨by omega⟩, HS9, HP9⟩, by have := HAN.out; simp [intOf]; omega⟩
         ·have hdl : decide (a < b) = false := decide_eq_false hlt
          clear hlt
          go_wp2
          exact ⟨⟨a + 1, xs, rfl, ⟨by have := HAN.out; omega⟩, HS, HPm⟩, by have := HAN.out; simp [intOf]; omega⟩
      ·have hda : decide (a < n) = false := decide_eq_false han
       clear han
       go_wp2
       exact ⟨⟨L - 1, xs, rfl, ⟨by have := HL1.out; omega⟩, HS, HPm⟩, by have := HL1.out; simp [intOf]; omega⟩
    ·have hdL : decide (1 ≤ L) = false := decide_eq_false hL
     clear hL
     go_wp2
     go_ret
     exact ⟨_, xs, rfl, Kd.R_mono HS.out.o (fun _ _ => trivial), HS.out.be, hnn.symm ▸ HPm.out⟩
end Go.Proofs.Yteoonjnmghponaa.F
