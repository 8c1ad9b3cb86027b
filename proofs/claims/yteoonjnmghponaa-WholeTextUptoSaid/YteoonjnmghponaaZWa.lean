/- Where lines may end, plain: what the printed functions of breaks come to, as one walk through the text. Plain laws of UTF-8 over lists of numbers: what is decoded, what is encoded, that the two agree; and that the model's own decoder is this one. What the printed functions of package utf come to, in plain words: decoding is 'dec', encoding is 'encL'. The paragraphs of a text, plain: they follow one another over the whole, and each ends where a line must end. The law WholeText's plain facts: what decoding, encoding and the small text come to. -/
import Derived.Test.YteoonjnmghponaaZPx4
import Derived.Laws.BytesArg
import Derived.Laws.RangeAny
import Derived.Test.YteoonjnmghponaaZPx8
import Derived.Test.YteoonjnmghponaaZPx1
import Derived.Test.YteoonjnmghponaaZUb
namespace Go.Proofs.Yteoonjnmghponaa.B
open Go.RowKit Go.Proofs.Yteoonjnmghponaa.P Go.Proofs.Yteoonjnmghponaa.F Go.Proofs.YteoonjnmghponaaW.PrintWords Go.Proofs.YteoonjnmghponaaW.PrintLast
set_option linter.unusedVariables false
set_option linter.unusedSimpArgs false

theorem w64 {x : Int} (h0 : -9223372036854775808 ≤ x) (h1 : x ≤ 9223372036854775807) : wrap64 x = x := by
 unfold wrap64; omega

def cls (c : Int) : Int := (lookT c).2.2
def ends (c : Int) : Bool := c == 1 || c == 2 || c == 3 || c == 4 || c == 5
def stepC (p : Option Int) (x : Int) : Int × Bool :=
 if cls x = 8 then match p with
  | none => (0, false)
  | some p => if ends p then (0, false) else (p, true)
 else (cls x, false)
def clsL : Option Int → List Int → List (Int × Bool)
 | _, [] => []
 | p, x :: l => stepC p x :: clsL (some (stepC p x).1) l
def pairP (a b : Int) : Bool :=
 if a = 0 ∨ a = 17 then b == 0 || b == 17 || b == 18 || b == 19 || b == 11
 else if a = 18 ∨ a = 19 then b == 0 || b == 17 || b == 11 || (a == 18 && b == 20)
 else if a = 12 then b == 0 || b == 17 || b == 18 || b == 19
 else if a = 10 ∨ a = 16 ∨ a = 11 then b == 17
 else if a = 15 then b == 0 || b == 17
 else if a = 20 then b == 19
 else false
def btwT (a b c : Int) (j : Bool) : Int :=
 if j = true then 0
 else if a = 7 ∨ b = 7 ∨ a = 6 ∨ (b = 6 ∧ a ≠ 4 ∧ a ≠ 9 ∧ a ≠ 10) then 0
 else if b = 12 ∨ b = 14 ∨ b = 15 ∨ b = 16 ∨ c = 11 ∨ (c = 13 ∧ b = 11) then 0
 else if a = 4 then 1
 else if a = 13 ∨ b = 13 ∨ b = 9 ∨ b = 10 ∨ pairP a b = true then 0
 else 1
def btw (a b c : Int) (j : Bool) : Int :=
 if a = 1 ∨ a = 3 then 2 else if a = 2 ∧ b = 3 then 0 else if a = 2 then 2
 else if b = 1 ∨ b = 2 ∨ b = 3 ∨ b = 4 ∨ b = 5 then 0
 else if c = 5 then 1
 else btwT a b c j
def upd (c a : Int) : Int := if a = 4 then c else a
def outL : Int → List (Int × Bool) → List Int
 | _, [] => []
 | _, [_] => [2]
 | c, x :: y :: r => btw x.1 y.1 (upd c x.1) y.2 :: outL (upd c x.1) (y :: r)
def brkL (l : List Int) : List Int := outL 31 (clsL none l)

theorem step_ends (p : Option Int) (x : Int) (h : cls x = 8) : ends (stepC p x).1 = false := by
 unfold stepC
 rw [if_pos h]
 split
 ·rfl
 ·split
  ·rfl
  ·rename_i hh
   simpa using hh
/-! ### The functions of the rules, by looking at every class -/
def Cl (c : Int) : Prop := 0 ≤ c ∧ c ≤ 20
def cl21 : List Int := (List.range 21).map (fun n : Nat => (n : Int))
theorem cl_mem {c : Int} (h : Cl c) : c ∈ cl21 := by
 have h0 := h.1
 have h1 := h.2
 unfold cl21
 rw [List.mem_map]
 exact ⟨c.toNat, List.mem_range.2 (by omega), by omega⟩
theorem cls_cl (c : Int) : Cl (cls c) := by
 have hall : ∀ r ∈ tab, Cl (r.getD 4 0) := by
  have : tab.all (fun r => decide (0 ≤ r.getD 4 0 ∧ r.getD 4 0 ≤ 20)) = true := by decide +kernel
  intro r hr
  have := List.all_eq_true.1 this r hr
  simpa [Cl] using this
 unfold cls lookT
 split
 ·rename_i r hr
  split
  ·exact hall r (List.mem_of_find?_eq_some hr)
  ·exact ⟨Int.le_refl _, by decide⟩
 ·exact ⟨Int.le_refl _, by decide⟩
theorem stepC_cl (p : Option Int) (x : Int) (hp : ∀ q, p = some q → Cl q) : Cl (stepC p x).1 := by
 unfold stepC
 split
 ·split
  ·exact ⟨Int.le_refl _, by decide⟩
  ·split
   ·exact ⟨Int.le_refl _, by decide⟩
   ·exact hp _ rfl
 ·exact cls_cl x
theorem clsL_cl : ∀ (l : List Int) (p : Option Int), (∀ q, p = some q → Cl q) → ∀ z ∈ clsL p l, Cl z.1
 | [], _, _, z, hz => by cases hz
 | x :: l, p, hp, z, hz => by
  have h1 := stepC_cl p x hp
  unfold clsL at hz
  rcases List.mem_cons.1 hz with rfl | hz
  ·exact h1
  ·exact clsL_cl l _ (fun q hq => by cases hq; exact h1) z hz
theorem ends_ev {p : Int} (h : Cl p) : Ev (fun k => breaks_ends.f k p) (ends p) := by
 have hall : ∀ p ∈ cl21, breaks_ends.f 8 p = some (ends p) := by decide +kernel
 exact Ev.of (fun k => breaks_ends.mono _ k) (hall p (cl_mem h))
set_option maxRecDepth 100000 in
theorem btw_all : ∀ a ∈ cl21, ∀ b ∈ cl21, ∀ c ∈ 31 :: cl21, ∀ j ∈ [false, true], breaks_between.f 12 a b c j = some (btw a b c j) := by decide +kernel
theorem btw_ev {a b c : Int} {j : Bool} (ha : Cl a) (hb : Cl b) (hc : Cl c ∨ c = 31) : Ev (fun k => breaks_between.f k a b c j) (btw a b c j) := by
 refine Ev.of (fun k => breaks_between.mono _ _ _ _ k) (btw_all a (cl_mem ha) b (cl_mem hb) c ?_ j (by cases j <;> simp))
 rcases hc with h | rfl
 ·exact List.mem_cons_of_mem _ (cl_mem h)
 ·exact List.mem_cons_self

/-! ### The classes -/
def lastC : Option Int → List Int → Option Int
 | p, [] => p
 | p, x :: l => lastC (some (stepC p x).1) l
theorem clsL_append : ∀ (a : List Int) (p : Option Int) (b : List Int), clsL p (a ++ b) = clsL p a ++ clsL (lastC p a) b
 | [], _, _ => rfl
 | x :: a, p, b => by simp only [List.cons_append, clsL, lastC, clsL_append a]
theorem clsL_len : ∀ (a : List Int) (p : Option Int), (clsL p a).length = a.length
 | [], _ => rfl
 | x :: a, p => by simp only [clsL, List.length_cons, clsL_len a]
theorem lastC_last : ∀ (a : List Int) (p : Option Int), a ≠ [] → lastC p a = some (rd ((clsL p a).map (·.1)) ((a.length : Int) - 1))
 | [], _, h => absurd rfl h
 | [x], p, _ => by simp [lastC, clsL, rd]
 | x :: y :: a, p, _ => by
  have := lastC_last (y :: a) (some (stepC p x).1) (by simp)
  rw [lastC, this, show clsL p (x :: y :: a) = stepC p x :: clsL (some (stepC p x).1) (y :: a) from rfl, List.map_cons]
  simp only [List.length_cons, rd]
  have e1 : ((((a.length + 1 + 1 : Nat) : Int)) - 1).toNat = a.length + 1 := by omega
  have e2 : ((((a.length + 1 : Nat) : Int)) - 1).toNat = a.length := by omega
  rw [e1, e2, List.getD_cons_succ]
theorem set_mid {α : Type} (A : List α) (n : Nat) (d v : α) (i : Nat) (hi : i = A.length) : (A ++ List.replicate (n + 1) d).set i v = (A ++ [v]) ++ List.replicate n d := by
 subst hi
 rw [List.set_append_right _ _ (Nat.le_refl _), Nat.sub_self, List.replicate_succ, List.set_cons_zero, List.append_assoc]
 rfl
theorem rd_at (pre suf : List Int) (x : Int) : rd (pre ++ x :: suf) ((pre.length : Nat) : Int) = x := by
 simp [rd]
theorem rdOf_at {α : Type} (d : α) (pre suf : List α) (x : α) : rdOf d (pre ++ x :: suf) ((pre.length : Nat) : Int) = x := by
 simp [rdOf]
theorem rd_left (A B : List Int) (i : Int) (h : i.toNat < A.length) : rd (A ++ B) i = rd A i := by
 simp only [rd, List.getD_eq_getElem?_getD]
 rw [List.getElem?_append_left h]

theorem classes_loop (l : List Int) (hl : l.length ≤ 35184372088832) : ∀ (suf pre : List Int), l = pre ++ suf →
  Ev (fun k => breaks_classes.l0 k ((clsL none pre).map (·.1) ++ List.replicate suf.length 0) ((clsL none pre).map (·.2) ++ List.replicate suf.length false) l (l.length : Int) (pre.length : Int))
   ((clsL none l).map (·.1), (clsL none l).map (·.2))
 | [], pre, h => by
  rw [List.append_nil] at h
  subst h
  refine Ev.step (f := fun _ => some ((clsL none l).map (fun z : Int × Bool => z.1), (clsL none l).map (fun z : Int × Bool => z.2))) (fun k => ?_) (Ev.now _)
  simp only [breaks_classes.l0]
  rw [if_neg (by omega)]
  simp
 | x :: suf, pre, h => by
  have hlen : l.length = pre.length + suf.length + 1 := by rw [h]; simp; omega
  have ih := classes_loop l hl suf (pre ++ [x]) (by rw [h]; simp)
  have ec : clsL none (pre ++ [x]) = clsL none pre ++ [stepC (lastC none pre) x] := by rw [clsL_append]; rfl
  have hA : ((clsL none pre).map (·.1)).length = pre.length := by rw [List.length_map, clsL_len]
  have hB : ((clsL none pre).map (·.2)).length = pre.length := by rw [List.length_map, clsL_len]
  have e1 : wrap64 ((pre.length : Int) + 1) = (((pre ++ [x]).length : Nat) : Int) := by rw [w64 (by omega) (by omega)]; simp
  have er : rd l (pre.length : Int) = x := by rw [h]; exact rd_at pre suf x
  have hL : ucd_Look.f x = some (lookT x) := rfl
  have l1 : (((clsL none pre).map (fun z : Int × Bool => z.1) ++ List.replicate (x :: suf).length (0 : Int)).length : Int) = l.length := by simp [clsL_len]; omega
  have l2 : (((clsL none pre).map (fun z : Int × Bool => z.2) ++ List.replicate (x :: suf).length false).length : Int) = l.length := by simp [clsL_len]; omega
  have st0 : ∀ v, ((clsL none pre).map (·.1) ++ List.replicate (x :: suf).length (0 : Int)).set ((pre.length : Int)).toNat v = ((clsL none pre).map (·.1) ++ [v]) ++ List.replicate suf.length 0 := fun v => set_mid _ _ _ _ _ (by omega)
  have st1 : ((clsL none pre).map (·.2) ++ List.replicate (x :: suf).length false).set ((pre.length : Int)).toNat true = ((clsL none pre).map (·.2) ++ [true]) ++ List.replicate suf.length false := set_mid _ _ _ _ _ (by omega)
  have sk : (clsL none pre).map (fun z : Int × Bool => z.2) ++ List.replicate (x :: suf).length false = ((clsL none pre).map (fun z : Int × Bool => z.2) ++ [false]) ++ List.replicate suf.length false := by simp [List.replicate_succ]
  rw [ec, List.map_append, List.map_append] at ih
  simp only [List.map_cons, List.map_nil] at ih
  by_cases h8 : cls x = 8
  ·have h8' : (lookT x).2.2 = 8 := h8
   cases hp : pre with
   | nil =>
    subst hp
    have es : stepC (lastC none []) x = (0, false) := by simp [stepC, lastC, h8]
    rw [es] at ih
    refine Ev.step (fun k => ?_) ih
    simp only [breaks_classes.l0]
    rw [if_pos (by simp only [List.length_nil]; omega), if_pos (by simp), if_pos (by simp only [List.length_nil]; omega), er, hL, Option.bind_some, if_pos h8', if_neg (by simp), l1, if_pos (by simp only [List.length_nil]; omega), st0, sk, e1]
   | cons y pre' =>
    have hpn : pre ≠ [] := by rw [hp]; simp
    have hpl : 0 < pre.length := by rw [hp]; simp
    rw [← hp]
    have el := lastC_last pre none hpn
    have e2 : wrap64 ((pre.length : Int) - 1) = (pre.length : Int) - 1 := w64 (by omega) (by omega)
    have er2 : rd ((clsL none pre).map (·.1) ++ List.replicate (x :: suf).length 0) ((pre.length : Int) - 1) = rd ((clsL none pre).map (·.1)) ((pre.length : Int) - 1) := rd_left _ _ _ (by omega)
    generalize hq : rd ((clsL none pre).map (·.1)) ((pre.length : Int) - 1) = q at *
    have hcl : Cl q := by
     have hm : q ∈ (clsL none pre).map (·.1) := by
      rw [← hq, rd, List.getD_eq_getElem?_getD, List.getElem?_eq_getElem (by omega)]
      exact List.getElem_mem _
     obtain ⟨z, hz, rfl⟩ := List.mem_map.1 hm
     exact clsL_cl pre none (fun _ h => by cases h) z hz
    refine Ev.step (f := fun k => (breaks_ends.f k q).bind fun t138 => (if t138 = true then (breaks_classes.l0 k (((clsL none pre).map (·.1) ++ [0]) ++ List.replicate suf.length 0) (((clsL none pre).map (·.2) ++ [false]) ++ List.replicate suf.length false) l (l.length : Int) ((pre ++ [x]).length : Nat)) else (breaks_classes.l0 k (((clsL none pre).map (·.1) ++ [q]) ++ List.replicate suf.length 0) (((clsL none pre).map (·.2) ++ [true]) ++ List.replicate suf.length false) l (l.length : Int) ((pre ++ [x]).length : Nat)))) (fun k => ?_) ?_
    ·simp only [breaks_classes.l0]
     rw [if_pos (by omega), if_pos (by omega), if_pos (by omega), er, hL, Option.bind_some, if_pos h8', if_pos (by omega), e2, if_pos (by omega), l1, if_pos (by omega), l2, if_pos (by omega), if_pos (by omega), er2, st0, st0, st1, e1]
     simp only [sk, show ((pre.length : Nat) : Int) < (l.length : Int) from by omega, if_true]
    ·refine Ev.bind (ends_ev hcl) ?_
     by_cases he : ends q = true
     ·have es : stepC (lastC none pre) x = (0, false) := by rw [el]; simp [stepC, h8, he]
      rw [es] at ih
      simp only [he, if_true]
      exact ih
     ·have he' : ends q = false := by simpa using he
      have es : stepC (lastC none pre) x = (q, true) := by rw [el]; simp [stepC, h8, he']
      rw [es] at ih
      simp only [he', Bool.false_eq_true, if_false]
      exact ih
  ·have h8' : ¬ (lookT x).2.2 = 8 := h8
   have es : stepC (lastC none pre) x = ((lookT x).2.2, false) := by unfold stepC; rw [if_neg h8]; rfl
   rw [es] at ih
   refine Ev.step (fun k => ?_) ih
   simp only [breaks_classes.l0]
   rw [if_pos (by omega), if_pos (by omega), if_pos (by omega), er, hL, Option.bind_some, if_neg h8', l1, if_pos (by omega), st0, sk, e1]
theorem classes_ev (l : List Int) (hl : l.length ≤ 35184372088832) : Ev (fun k => breaks_classes.f k l) ((clsL none l).map (·.1), (clsL none l).map (·.2)) := by
 have h := classes_loop l hl l [] rfl
 refine Ev.congr (fun k => ?_) h
 simp only [breaks_classes.f]
 rw [if_pos (by omega), if_pos (by omega), if_pos (by omega)]
 simp [clsL]

/-! ### The ends -/
theorem upd_cl {c a : Int} (hc : Cl c ∨ c = 31) (ha : Cl a) : Cl (upd c a) ∨ upd c a = 31 := by
 unfold upd
 split
 ·exact hc
 ·exact Or.inl ha
theorem breaks_loop (l : List Int) (C : List (Int × Bool)) (hl : l.length ≤ 35184372088832) (hC : C.length = l.length) (hcl : ∀ z ∈ C, Cl z.1) :
  ∀ (suf pre : List (Int × Bool)) (o : List Int) (c : Int), C = pre ++ suf → o.length = pre.length → (Cl c ∨ c = 31) →
   Ev (fun k => breaks_Breaks.l0 k l (C.map (·.1)) (C.map (·.2)) (o ++ List.replicate suf.length 0) c (C.map (·.1)) ((C.map (·.1)).length : Int) (pre.length : Int)) (o ++ outL c suf)
 | [], pre, o, c, h, ho, hc => by
  rw [List.append_nil] at h
  refine Ev.step (f := fun _ => some o) (fun k => ?_) (by simpa [outL] using Ev.now o)
  simp only [breaks_Breaks.l0]
  rw [if_neg (by rw [List.length_map, h]; omega)]
  simp
 | x :: suf, pre, o, c, h, ho, hc => by
  have hlen : C.length = pre.length + suf.length + 1 := by rw [h]; simp; omega
  have hx : Cl x.1 := hcl x (by rw [h]; simp)
  have hu := upd_cl hc hx
  have e1 : wrap64 ((pre.length : Int) + 1) = (((pre ++ [x]).length : Nat) : Int) := by rw [w64 (by omega) (by omega)]; simp
  have eL : ((pre ++ [x]).length : Nat) = pre.length + 1 := by simp
  have hm1 : ((C.map (·.1)).length : Int) = C.length := by simp
  have hm2 : ((C.map (·.2)).length : Int) = C.length := by simp
  have er : rd (C.map (·.1)) (pre.length : Int) = x.1 := by
   rw [h, List.map_append, List.map_cons]
   have := rd_at (pre.map (·.1)) (suf.map (·.1)) x.1
   rwa [List.length_map] at this
  have lo : ((o ++ List.replicate (x :: suf).length (0 : Int)).length : Int) = C.length := by simp; omega
  have st0 : ∀ v, (o ++ List.replicate (x :: suf).length (0 : Int)).set ((pre.length : Int)).toNat v = (o ++ [v]) ++ List.replicate suf.length 0 := fun v => set_mid _ _ _ _ _ (by omega)
  cases suf with
  | nil =>
   have ih := breaks_loop l C hl hC hcl [] (pre ++ [x]) (o ++ [2]) (upd c x.1) (by rw [h]; simp) (by simp [ho]) hu
   have eo : o ++ outL c [x] = (o ++ [2]) ++ outL (upd c x.1) [] := by simp [outL]
   rw [eo]
   have hlast : ¬ wrap64 ((pre.length : Int) + 1) < (l.length : Int) := by rw [e1, eL]; simp at hlen; omega
   refine Ev.step (fun k => ?_) ih
   simp only [breaks_Breaks.l0]
   rw [hm1, if_pos (by omega), if_pos (by omega), if_pos (by omega), er]
   by_cases h4 : x.1 = 4
   ·rw [if_pos h4, if_neg hlast, lo, if_pos (by omega), st0, e1]
    simp only [upd, h4, if_true]
   ·rw [if_neg h4, if_neg hlast, lo, if_pos (by omega), st0, e1]
    simp only [upd, h4, if_false]
  | cons y r =>
   have hy : Cl y.1 := hcl y (by rw [h]; simp)
   have ih := breaks_loop l C hl hC hcl (y :: r) (pre ++ [x]) (o ++ [btw x.1 y.1 (upd c x.1) y.2]) (upd c x.1) (by rw [h]; simp) (by simp [ho]) hu
   have eo : o ++ outL c (x :: y :: r) = (o ++ [btw x.1 y.1 (upd c x.1) y.2]) ++ outL (upd c x.1) (y :: r) := by simp [outL]
   rw [eo]
   have hC' : C = (pre ++ [x]) ++ y :: r := by rw [h]; simp
   have er1 : rd (C.map (·.1)) (((pre ++ [x]).length : Nat) : Int) = y.1 := by
    have := rd_at ((pre ++ [x]).map (·.1)) (r.map (·.1)) y.1
    rw [List.length_map] at this
    rw [hC', List.map_append, List.map_cons]
    exact this
   have er2 : rdOf false (C.map (·.2)) (((pre ++ [x]).length : Nat) : Int) = y.2 := by
    have := rdOf_at false ((pre ++ [x]).map (·.2)) (r.map (·.2)) y.2
    rw [List.length_map] at this
    rw [hC', List.map_append, List.map_cons]
    exact this
   have hin : (((pre ++ [x]).length : Nat) : Int) < (l.length : Int) := by rw [eL]; simp at hlen; omega
   refine Ev.step (f := fun k => (breaks_between.f k x.1 y.1 (upd c x.1) y.2).bind fun t => breaks_Breaks.l0 k l (C.map (·.1)) (C.map (·.2)) ((o ++ [t]) ++ List.replicate (y :: r).length 0) (upd c x.1) (C.map (·.1)) ((C.map (·.1)).length : Int) (((pre ++ [x]).length : Nat) : Int)) (fun k => ?_) (Ev.bind (btw_ev hx hy hu) ih)
   simp only [breaks_Breaks.l0]
   rw [hm1, if_pos (by omega), if_pos (by omega), if_pos (by omega), er]
   by_cases h4 : x.1 = 4
   ·rw [if_pos h4, e1, if_pos hin, if_pos (by omega), if_pos (by omega), hm2, if_pos (by omega), er1, er2]
    simp only [upd, h4, if_true, lo, show ((pre.length : Nat) : Int) < (C.length : Int) from by omega, st0]
   ·rw [if_neg h4, e1, if_pos hin, if_pos (by omega), if_pos (by omega), hm2, if_pos (by omega), er1, er2]
    simp only [upd, h4, if_false, if_true, lo, show ((pre.length : Nat) : Int) < (C.length : Int) from by omega, st0]
theorem brk_ev (l : List Int) (hl : l.length ≤ 35184372088832) : Ev (fun k => breaks_Breaks.f k l) (brkL l) := by
 have hc := clsL_len l none
 refine Ev.bind (classes_ev l hl) ?_
 have h := breaks_loop l (clsL none l) hl hc (clsL_cl l none (fun _ h => by cases h)) (clsL none l) [] [] 31 rfl rfl (Or.inr rfl)
 refine Ev.congr (fun k => ?_) h
 simp only
 rw [if_pos (by omega), if_pos (by omega), List.nil_append, hc]
 simp

theorem outL_len : ∀ (c : Int) (l : List (Int × Bool)), (outL c l).length = l.length
 | _, [] => rfl
 | _, [_] => rfl
 | c, x :: y :: r => by rw [outL, List.length_cons, outL_len (upd c x.1) (y :: r)]; rfl
theorem brkL_len (l : List Int) : (brkL l).length = l.length := by rw [brkL, outL_len, clsL_len]
end Go.Proofs.Yteoonjnmghponaa.B
namespace Go.Proofs.Yteoonjnmghponaa.U
set_option linter.unusedVariables false
set_option linter.unusedSimpArgs false

def Byt (l : List Int) : Prop := ∀ x ∈ l, 0 ≤ x ∧ x ≤ 255
theorem Byt.drop {l : List Int} (h : Byt l) (n : Nat) : Byt (l.drop n) := fun x hx => h x (List.mem_of_mem_drop hx)
theorem Byt.append {l m : List Int} (h : Byt l) (k : Byt m) : Byt (l ++ m) := fun x hx => (List.mem_append.1 hx).elim (h x) (k x)
theorem Byt.at_ {l : List Int} (h : Byt l) (i : Nat) : 0 ≤ l.getD i 0 ∧ l.getD i 0 ≤ 255 := by
 rw [List.getD_eq_getElem?_getD]
 rcases Nat.lt_or_ge i l.length with hi | hi
 ·rw [List.getElem?_eq_getElem hi]
  exact h _ (List.getElem_mem hi)
 ·rw [List.getElem?_eq_none hi]
  simp

/-- Is it a scalar? -/
def sc (c : Int) : Bool := decide ((0 ≤ c ∧ c < 55296) ∨ (57343 < c ∧ c ≤ 1114111))
def fix (c : Int) : Int := if sc c then c else 65533
def encRaw (c : Int) : List Int :=
 if c < 128 then [c] else if c < 2048 then [192 + c / 64, 128 + c % 64] else if c < 65536 then [224 + c / 4096, 128 + c / 64 % 64, 128 + c % 64]
 else [240 + c / 262144, 128 + c / 4096 % 64, 128 + c / 64 % 64, 128 + c % 64]
def enc1 (c : Int) : List Int := encRaw (fix c)
def encL (l : List Int) : List Int := l.flatMap enc1
def cont (m : List Int) (k : Nat) : Bool := decide (k < m.length ∧ m.getD k 0 / 64 = 2)
/-- The code at the head of some bytes, and how many bytes it takes; none: they write none. -/
def dec1o (m : List Int) : Option (Int × Nat) :=
 let b0 := m.getD 0 0
 if b0 < 128 then some (b0, 1)
 else if b0 / 32 = 6 ∧ cont m 1 = true then
  if 128 ≤ (b0 % 32) * 64 + m.getD 1 0 % 64 then some ((b0 % 32) * 64 + m.getD 1 0 % 64, 2) else none
 else if b0 / 16 = 14 ∧ cont m 1 = true ∧ cont m 2 = true then
  if 2048 ≤ (b0 % 16) * 4096 + (m.getD 1 0 % 64) * 64 + m.getD 2 0 % 64 ∧ sc ((b0 % 16) * 4096 + (m.getD 1 0 % 64) * 64 + m.getD 2 0 % 64) = true then
   some ((b0 % 16) * 4096 + (m.getD 1 0 % 64) * 64 + m.getD 2 0 % 64, 3) else none
 else if b0 / 8 = 30 ∧ cont m 1 = true ∧ cont m 2 = true ∧ cont m 3 = true then
  if 65536 ≤ (b0 % 8) * 262144 + (m.getD 1 0 % 64) * 4096 + (m.getD 2 0 % 64) * 64 + m.getD 3 0 % 64 ∧ sc ((b0 % 8) * 262144 + (m.getD 1 0 % 64) * 4096 + (m.getD 2 0 % 64) * 64 + m.getD 3 0 % 64) = true then
   some ((b0 % 8) * 262144 + (m.getD 1 0 % 64) * 4096 + (m.getD 2 0 % 64) * 64 + m.getD 3 0 % 64, 4) else none
 else none
def dec1 (m : List Int) : Int × Nat := (dec1o m).getD (65533, 1)
def decN : Nat → List Int → List Int
 | 0, _ => []
 | f + 1, m => if 0 < m.length then (dec1 m).1 :: decN f (m.drop (dec1 m).2) else []
def dec (m : List Int) : List Int := decN m.length m

theorem fix_sc (c : Int) : sc (fix c) = true := by
 unfold fix
 split
 ·assumption
 ·decide
theorem fix_of (c : Int) (h : sc c = true) : fix c = c := by unfold fix; rw [if_pos h]
theorem sc_iff (c : Int) : sc c = true ↔ (0 ≤ c ∧ c < 55296) ∨ (57343 < c ∧ c ≤ 1114111) := by simp [sc]
theorem sc_false (c : Int) : sc c = false ↔ ¬ ((0 ≤ c ∧ c < 55296) ∨ (57343 < c ∧ c ≤ 1114111)) := by simp [sc]

/-- what one decoding gives: a scalar, one to four bytes, no more than there are -/
theorem dec1o_ok (m : List Int) (hb : Byt m) (h0 : 0 < m.length) (c : Int) (n : Nat) (h : dec1o m = some (c, n)) : sc c = true ∧ 1 ≤ n ∧ n ≤ 4 ∧ n ≤ m.length := by
 have a0 := hb.at_ 0
 have a1 := hb.at_ 1
 have a2 := hb.at_ 2
 have a3 := hb.at_ 3
 unfold dec1o at h
 simp only [cont, decide_eq_true_eq] at h
 rw [sc_iff] at *
 split at h
 ·simp only [Option.some.injEq, Prod.mk.injEq] at h
  omega
 ·split at h
  ·split at h
   ·simp only [Option.some.injEq, Prod.mk.injEq] at h
    omega
   ·cases h
  ·split at h
   ·split at h
    ·rename_i hh
     rw [sc_iff] at hh
     simp only [Option.some.injEq, Prod.mk.injEq] at h
     omega
    ·cases h
   ·split at h
    ·split at h
     ·rename_i hh
      rw [sc_iff] at hh
      simp only [Option.some.injEq, Prod.mk.injEq] at h
      omega
     ·cases h
    ·cases h
theorem dec1_ok (m : List Int) (hb : Byt m) (h0 : 0 < m.length) : sc (dec1 m).1 = true ∧ 1 ≤ (dec1 m).2 ∧ (dec1 m).2 ≤ 4 ∧ (dec1 m).2 ≤ m.length := by
 unfold dec1
 cases h : dec1o m with
 | none => exact ⟨by decide, by simp, by simp, by simp; omega⟩
 | some p => exact dec1o_ok m hb h0 p.1 p.2 h

theorem decN_enough : ∀ (f g : Nat) (m : List Int), Byt m → m.length ≤ f → m.length ≤ g → decN f m = decN g m := by
 intro f
 induction f with
 | zero =>
  intro g m hb hf hg
  cases g with
  | zero => rfl
  | succ g => simp only [decN]; rw [if_neg (by omega)]
 | succ f ih =>
  intro g m hb hf hg
  cases g with
  | zero => simp only [decN]; rw [if_neg (by omega)]
  | succ g =>
   simp only [decN]
   by_cases h0 : 0 < m.length
   ·rw [if_pos h0, if_pos h0]
    have hk := dec1_ok m hb h0
    rw [ih g (m.drop (dec1 m).2) (hb.drop _) (by rw [List.length_drop]; omega) (by rw [List.length_drop]; omega)]
   ·rw [if_neg h0, if_neg h0]
theorem dec_nil : dec [] = [] := rfl
theorem dec_step (m : List Int) (hb : Byt m) (h0 : 0 < m.length) : dec m = (dec1 m).1 :: dec (m.drop (dec1 m).2) := by
 have hk := dec1_ok m hb h0
 obtain ⟨f, hf⟩ : ∃ f, m.length = f + 1 := ⟨m.length - 1, by omega⟩
 unfold dec
 rw [hf]
 simp only [decN]
 rw [if_pos h0, decN_enough f _ (m.drop (dec1 m).2) (hb.drop _) (by rw [List.length_drop]; omega) (Nat.le_refl _)]
theorem dec_facts : ∀ (n : Nat) (m : List Int), m.length ≤ n → Byt m → (∀ c ∈ dec m, sc c = true) ∧ (dec m).length ≤ m.length ∧ m.length ≤ 4 * (dec m).length := by
 intro n
 induction n with
 | zero =>
  intro m hn hb
  obtain rfl : m = [] := List.eq_nil_of_length_eq_zero (by omega)
  simp [dec_nil]
 | succ n ih =>
  intro m hn hb
  by_cases h0 : 0 < m.length
  ·have hk := dec1_ok m hb h0
   rw [dec_step m hb h0]
   obtain ⟨h1, h2, h3⟩ := ih (m.drop (dec1 m).2) (by rw [List.length_drop]; omega) (hb.drop _)
   rw [List.length_drop] at h2 h3
   refine ⟨fun c hc => ?_, by simp only [List.length_cons]; omega, by simp only [List.length_cons]; omega⟩
   rcases List.mem_cons.1 hc with rfl | hc
   ·exact hk.1
   ·exact h1 c hc
  ·obtain rfl : m = [] := List.eq_nil_of_length_eq_zero (by omega)
   simp [dec_nil]

theorem encRaw_byt (c : Int) (h0 : 0 ≤ c) (h1 : c ≤ 1114111) : Byt (encRaw c) ∧ 1 ≤ (encRaw c).length ∧ (encRaw c).length ≤ 4 := by
 unfold encRaw Byt
 repeat' split
 all_goals (refine ⟨?_, by simp, by simp⟩; intro x hx; simp only [List.mem_cons, List.not_mem_nil, or_false] at hx; omega)
theorem fix_range (c : Int) : 0 ≤ fix c ∧ fix c ≤ 1114111 := by
 have := (sc_iff _).1 (fix_sc c)
 omega
theorem enc1_byt (c : Int) : Byt (enc1 c) := (encRaw_byt _ (fix_range c).1 (fix_range c).2).1
theorem enc1_len (c : Int) : 1 ≤ (enc1 c).length ∧ (enc1 c).length ≤ 4 := (encRaw_byt _ (fix_range c).1 (fix_range c).2).2
theorem encL_cons (c : Int) (l : List Int) : encL (c :: l) = enc1 c ++ encL l := rfl
theorem encL_byt (l : List Int) : Byt (encL l) := by
 induction l with
 | nil => intro x hx; cases hx
 | cons c l ih => exact (enc1_byt c).append ih
theorem encL_len (l : List Int) : l.length ≤ (encL l).length ∧ (encL l).length ≤ 4 * l.length := by
 induction l with
 | nil => simp [encL]
 | cons c l ih =>
  have := enc1_len c
  rw [encL_cons, List.length_append, List.length_cons]
  omega
/-- a scalar's bytes are read back -/
theorem dec1_encRaw (c : Int) (hs : sc c = true) (m : List Int) : dec1o (encRaw c ++ m) = some (c, (encRaw c).length) := by
 have hs' := (sc_iff c).1 hs
 unfold encRaw
 split
 ·rename_i h
  simp only [dec1o, List.cons_append, List.nil_append, List.getD_cons_zero]
  rw [if_pos h]
  rfl
 ·split
  ·rename_i h1 h2
   simp only [dec1o, cont, List.cons_append, List.nil_append, List.getD_cons_zero, List.getD_cons_succ, List.length_cons, decide_eq_true_eq]
   rw [if_neg (by omega), if_pos ⟨by omega, by omega, by omega⟩, if_pos (by omega)]
   simp only [Option.some.injEq, Prod.mk.injEq]
   exact ⟨by omega, rfl⟩
  ·split
   ·rename_i h1 h2 h3
    simp only [dec1o, cont, List.cons_append, List.nil_append, List.getD_cons_zero, List.getD_cons_succ, List.length_cons, decide_eq_true_eq]
    have he : (224 + c / 4096) % 16 * 4096 + (128 + c / 64 % 64) % 64 * 64 + (128 + c % 64) % 64 = c := by omega
    rw [he, if_neg (by omega), if_neg (by omega), if_pos ⟨by omega, ⟨by omega, by omega⟩, by omega, by omega⟩, if_pos ⟨by omega, hs⟩]
    rfl
   ·rename_i h1 h2 h3
    simp only [dec1o, cont, List.cons_append, List.nil_append, List.getD_cons_zero, List.getD_cons_succ, List.length_cons, decide_eq_true_eq]
    have he : (240 + c / 262144) % 8 * 262144 + (128 + c / 4096 % 64) % 64 * 4096 + (128 + c / 64 % 64) % 64 * 64 + (128 + c % 64) % 64 = c := by omega
    rw [he, if_neg (by omega), if_neg (by omega), if_neg (by omega), if_pos ⟨by omega, ⟨by omega, by omega⟩, ⟨by omega, by omega⟩, by omega, by omega⟩, if_pos ⟨by omega, hs⟩]
    rfl
theorem dec_enc1 (c : Int) (m : List Int) (hb : Byt m) : dec (enc1 c ++ m) = fix c :: dec m := by
 have hl := enc1_len c
 have h1 : dec1 (enc1 c ++ m) = (fix c, (enc1 c).length) := by
  unfold dec1 enc1
  rw [dec1_encRaw (fix c) (fix_sc c) m]
  rfl
 rw [dec_step _ ((enc1_byt c).append hb) (by rw [List.length_append]; omega), h1]
 simp
theorem dec_encL (l m : List Int) (hb : Byt m) : dec (encL l ++ m) = l.map fix ++ dec m := by
 induction l with
 | nil => rfl
 | cons c l ih => rw [encL_cons, List.append_assoc, dec_enc1 c _ ((encL_byt l).append hb), ih]; rfl
theorem map_fix (l : List Int) (h : ∀ c ∈ l, sc c = true) : l.map fix = l := by
 induction l with
 | nil => rfl
 | cons c l ih =>
  rw [List.map_cons, fix_of c (h c List.mem_cons_self), ih (fun x hx => h x (List.mem_cons_of_mem _ hx))]
theorem dec_again (m : List Int) (hb : Byt m) : dec (encL (dec m)) = dec m := by
 have h := dec_encL (dec m) [] (fun x hx => by cases hx)
 rw [List.append_nil, dec_nil, List.append_nil] at h
 rw [h, map_fix _ (dec_facts m.length m (Nat.le_refl _) hb).1]

/-! the model's decoder -/
theorem get_nums (l : List Int) (hb : Byt l) (i : Nat) : (((strOfNums l).get! i).toNat : Int) = l.getD i 0 := by
 rw [List.getD_eq_getElem?_getD]
 rcases Nat.lt_or_ge i l.length with hi | hi
 ·rw [List.getElem?_eq_getElem hi]
  have hb' := hb _ (List.getElem_mem hi)
  have hh : (strOfNums l).get! i = UInt8.ofNat (l[i]).toNat := by
   simp [strOfNums, ByteArray.get!, hi]
  rw [hh]
  simp only [UInt8.toNat_ofNat', Option.getD_some]
  omega
 ·rw [List.getElem?_eq_none hi]
  have hh : (strOfNums l).get! i = 0 := by
   simp [strOfNums, ByteArray.get!, hi]
   rfl
  rw [hh]
  rfl
theorem size_nums (l : List Int) : (strOfNums l).size = l.length := by
 show (strOfNums l).data.size = _
 simp [strOfNums]
theorem valid_sc (n : Nat) : Utf8.valid (n : Int) = sc (n : Int) := by
 simp only [Utf8.valid, sc]
 rw [Bool.eq_iff_iff]
 simp
 omega
theorem getD_drop (l : List Int) (p k : Nat) : (l.drop p).getD k 0 = l.getD (p + k) 0 := by
 rw [List.getD_eq_getElem?_getD, List.getD_eq_getElem?_getD, List.getElem?_drop]
/-- the model's decoder, its four bytes given -/
def dform (sz p b0 b1 b2 b3 : Nat) : Nat × Nat :=
 if b0 < 0x80 then (b0, 1)
 else if b0 / 32 == 6 && (decide (p + 1 < sz) && b1 / 64 == 2) then
  if (b0 % 32) * 64 + b1 % 64 ≥ 0x80 then ((b0 % 32) * 64 + b1 % 64, 2) else (Utf8.runeError, 1)
 else if b0 / 16 == 14 && (decide (p + 1 < sz) && b1 / 64 == 2) && (decide (p + 2 < sz) && b2 / 64 == 2) then
  if decide ((b0 % 16) * 4096 + (b1 % 64) * 64 + b2 % 64 ≥ 0x800) && Utf8.valid (((b0 % 16) * 4096 + (b1 % 64) * 64 + b2 % 64 : Nat) : Int) then ((b0 % 16) * 4096 + (b1 % 64) * 64 + b2 % 64, 3) else (Utf8.runeError, 1)
 else if b0 / 8 == 30 && (decide (p + 1 < sz) && b1 / 64 == 2) && (decide (p + 2 < sz) && b2 / 64 == 2) && (decide (p + 3 < sz) && b3 / 64 == 2) then
  if decide ((b0 % 8) * 262144 + (b1 % 64) * 4096 + (b2 % 64) * 64 + b3 % 64 ≥ 0x10000) && Utf8.valid (((b0 % 8) * 262144 + (b1 % 64) * 4096 + (b2 % 64) * 64 + b3 % 64 : Nat) : Int) then ((b0 % 8) * 262144 + (b1 % 64) * 4096 + (b2 % 64) * 64 + b3 % 64, 4) else (Utf8.runeError, 1)
 else (Utf8.runeError, 1)
theorem decode_form (s : ByteArray) (p : Nat) : Utf8.decode s p = dform s.size p (s.get! (p + 0)).toNat (s.get! (p + 1)).toNat (s.get! (p + 2)).toNat (s.get! (p + 3)).toNat := rfl
theorem dform_dec1 (l : List Int) (p x0 x1 x2 x3 : Nat) (e0 : (x0 : Int) = l.getD p 0) (e1 : (x1 : Int) = l.getD (p + 1) 0) (e2 : (x2 : Int) = l.getD (p + 2) 0) (e3 : (x3 : Int) = l.getD (p + 3) 0) :
  ((dform l.length p x0 x1 x2 x3).1 : Int) = (dec1 (l.drop p)).1 ∧ (dform l.length p x0 x1 x2 x3).2 = (dec1 (l.drop p)).2 := by
 have vs := valid_sc
 unfold dec1 dec1o
 simp only [dform, cont, getD_drop, Nat.add_zero, List.length_drop, decide_eq_true_eq, Bool.and_eq_true, beq_iff_eq, Utf8.runeError]
 rw [← e0, ← e1, ← e2, ← e3]
 by_cases c1 : x0 < 128
 ·rw [if_pos c1, if_pos (by omega)]
  exact ⟨rfl, rfl⟩
 rw [if_neg c1, if_neg (show ¬ ((x0 : Int) < 128) by omega)]
 by_cases c2 : x0 / 32 = 6 ∧ p + 1 < l.length ∧ x1 / 64 = 2
 ·rw [if_pos c2, if_pos (show ((x0 : Int) / 32 = 6 ∧ 1 < l.length - p ∧ (x1 : Int) / 64 = 2) by omega)]
  by_cases c3 : 128 ≤ x0 % 32 * 64 + x1 % 64
  ·rw [if_pos (show x0 % 32 * 64 + x1 % 64 ≥ 128 from c3), if_pos (show (128 : Int) ≤ (x0 : Int) % 32 * 64 + (x1 : Int) % 64 by omega)]
   exact ⟨by simp, rfl⟩
  ·rw [if_neg (show ¬ x0 % 32 * 64 + x1 % 64 ≥ 128 from c3), if_neg (show ¬ ((128 : Int) ≤ (x0 : Int) % 32 * 64 + (x1 : Int) % 64) by omega)]
   exact ⟨rfl, rfl⟩
 rw [if_neg c2, if_neg (show ¬ ((x0 : Int) / 32 = 6 ∧ 1 < l.length - p ∧ (x1 : Int) / 64 = 2) by omega)]
 by_cases c3 : (x0 / 16 = 14 ∧ p + 1 < l.length ∧ x1 / 64 = 2) ∧ p + 2 < l.length ∧ x2 / 64 = 2
 ·rw [if_pos c3, if_pos (show ((x0 : Int) / 16 = 14 ∧ (1 < l.length - p ∧ (x1 : Int) / 64 = 2) ∧ 2 < l.length - p ∧ (x2 : Int) / 64 = 2) by omega)]
  have ev : ((x0 : Int) % 16 * 4096 + (x1 : Int) % 64 * 64 + (x2 : Int) % 64) = ((x0 % 16 * 4096 + x1 % 64 * 64 + x2 % 64 : Nat) : Int) := by omega
  rw [ev]
  have hv := vs (x0 % 16 * 4096 + x1 % 64 * 64 + x2 % 64)
  by_cases c4 : x0 % 16 * 4096 + x1 % 64 * 64 + x2 % 64 ≥ 2048 ∧ Utf8.valid ((x0 % 16 * 4096 + x1 % 64 * 64 + x2 % 64 : Nat) : Int) = true
  ·rw [if_pos c4, if_pos ⟨by omega, by rw [← hv]; exact c4.2⟩]
   exact ⟨rfl, rfl⟩
  ·rw [if_neg c4, if_neg (fun h => c4 ⟨by omega, by rw [hv]; exact h.2⟩)]
   exact ⟨rfl, rfl⟩
 rw [if_neg c3, if_neg (show ¬ ((x0 : Int) / 16 = 14 ∧ (1 < l.length - p ∧ (x1 : Int) / 64 = 2) ∧ 2 < l.length - p ∧ (x2 : Int) / 64 = 2) by omega)]
 by_cases c5 : ((x0 / 8 = 30 ∧ p + 1 < l.length ∧ x1 / 64 = 2) ∧ p + 2 < l.length ∧ x2 / 64 = 2) ∧ p + 3 < l.length ∧ x3 / 64 = 2
 ·rw [if_pos c5, if_pos (show ((x0 : Int) / 8 = 30 ∧ (1 < l.length - p ∧ (x1 : Int) / 64 = 2) ∧ (2 < l.length - p ∧ (x2 : Int) / 64 = 2) ∧ 3 < l.length - p ∧ (x3 : Int) / 64 = 2) by omega)]
  have ev : ((x0 : Int) % 8 * 262144 + (x1 : Int) % 64 * 4096 + (x2 : Int) % 64 * 64 + (x3 : Int) % 64) = ((x0 % 8 * 262144 + x1 % 64 * 4096 + x2 % 64 * 64 + x3 % 64 : Nat) : Int) := by omega
  rw [ev]
  have hv := vs (x0 % 8 * 262144 + x1 % 64 * 4096 + x2 % 64 * 64 + x3 % 64)
  by_cases c6 : x0 % 8 * 262144 + x1 % 64 * 4096 + x2 % 64 * 64 + x3 % 64 ≥ 65536 ∧ Utf8.valid ((x0 % 8 * 262144 + x1 % 64 * 4096 + x2 % 64 * 64 + x3 % 64 : Nat) : Int) = true
  ·rw [if_pos c6, if_pos ⟨by omega, by rw [← hv]; exact c6.2⟩]
   exact ⟨rfl, rfl⟩
  ·rw [if_neg c6, if_neg (fun h => c6 ⟨by omega, by rw [hv]; exact h.2⟩)]
   exact ⟨rfl, rfl⟩
 rw [if_neg c5, if_neg (show ¬ ((x0 : Int) / 8 = 30 ∧ (1 < l.length - p ∧ (x1 : Int) / 64 = 2) ∧ (2 < l.length - p ∧ (x2 : Int) / 64 = 2) ∧ 3 < l.length - p ∧ (x3 : Int) / 64 = 2) by omega)]
 exact ⟨rfl, rfl⟩
theorem decode_dec1 (l : List Int) (hb : Byt l) (p : Nat) : ((Utf8.decode (strOfNums l) p).1 : Int) = (dec1 (l.drop p)).1 ∧ (Utf8.decode (strOfNums l) p).2 = (dec1 (l.drop p)).2 := by
 rw [decode_form, size_nums]
 exact dform_dec1 l p _ _ _ _ (get_nums l hb _) (get_nums l hb _) (get_nums l hb _) (get_nums l hb _)
end Go.Proofs.Yteoonjnmghponaa.U
namespace Go.Proofs.Yteoonjnmghponaa.U
open Go.RowKit Go.Proofs.Yteoonjnmghponaa.P Go.Proofs.Yteoonjnmghponaa.F Go.Proofs.YteoonjnmghponaaW.PrintWords Go.Proofs.YteoonjnmghponaaW.PrintLast
set_option linter.unusedVariables false
set_option linter.unusedSimpArgs false

theorem w64 {x : Int} (h0 : -9223372036854775808 ≤ x) (h1 : x ≤ 9223372036854775807) : wrap64 x = x := by unfold wrap64; omega
theorem w32 {x : Int} (h0 : -2147483648 ≤ x) (h1 : x ≤ 2147483647) : wrap32 x = x := by unfold wrap32; omega
theorem rd_at (l : List Int) (i : Nat) : rd l (i : Int) = l.getD i 0 := by unfold rd; rw [Int.toNat_natCast]
theorem str_inj (a b : List Int) (ha : Byt a) (hb : Byt b) : (strOfNums a).toList = (strOfNums b).toList ↔ a = b := by
 constructor
 ·intro h
  simp only [strOfNums, ByteArray.toList_mk] at h
  induction a generalizing b with
  | nil => cases b with
   | nil => rfl
   | cons y b => simp at h
  | cons x a ih => cases b with
   | nil => simp at h
   | cons y b =>
    simp only [List.map_cons, List.cons.injEq] at h
    have hx := ha x List.mem_cons_self
    have hy := hb y List.mem_cons_self
    have e : x = y := by
     have := congrArg UInt8.toNat h.1
     simp only [UInt8.toNat_ofNat'] at this
     omega
    rw [e, ih b (fun z hz => ha z (List.mem_cons_of_mem _ hz)) (fun z hz => hb z (List.mem_cons_of_mem _ hz)) h.2]
 ·intro h; rw [h]

theorem decFrom_eq (l : List Int) (hb : Byt l) : ∀ (f p : Nat), decFrom (strOfNums l) f p = decN f (l.drop p) := by
 intro f
 induction f with
 | zero => intro p; rfl
 | succ f ih =>
  intro p
  obtain ⟨h1, h2⟩ := decode_dec1 l hb p
  simp only [decFrom, decN, size_nums, List.length_drop]
  by_cases hp : p < l.length
  ·rw [if_pos hp, if_pos (by omega), ih, h1, h2, List.drop_drop]
  ·rw [if_neg hp, if_neg (by omega)]
theorem decode_f (l : List Int) (hb : Byt l) (hl : (dec l).length < 17592186044416) : utf_Decode.f l = some (dec l) := by
 have e : decFrom (strOfNums l) l.length 0 = dec l := by rw [decFrom_eq l hb]; rfl
 unfold utf_Decode.f
 rw [e, if_pos hl]

theorem scalar_ev (c : Int) (h : (Lit.int .i64 c).wf = true) : Ev (fun k => utf_Scalar.f k c) (sc c) := by
 by_cases h0 : c ≥ 0
 ·by_cases h1 : c ≤ 1114111
  ·refine Ev.congr (f := fun k => (utf8_ValidRune.f k c).bind fun t => some t) (fun k => by simp only [utf_Scalar.f]; rw [if_pos h0, if_pos h1, w32 (by omega) (by omega)]) ?_
   refine Ev.bind (f := fun _ t => some t) (a := sc c) ?_ (Ev.now _)
   by_cases h2 : c < 55296
   ·refine Ev.congr (f := fun k => utf8_ValidRune.j0 k c true) (fun k => by simp only [utf8_ValidRune.f]; rw [if_pos h0, decide_eq_true h2]) ?_
    have e : sc c = true := (sc_iff c).2 (.inl ⟨h0, h2⟩)
    rw [e]
    exact Ev.step (f := fun _ => some true) (fun k => by simp [utf8_ValidRune.j0]) (Ev.now _)
   ·refine Ev.congr (f := fun k => utf8_ValidRune.j0 k c false) (fun k => by simp only [utf8_ValidRune.f]; rw [if_pos h0, decide_eq_false h2]) ?_
    by_cases h3 : 57343 < c
    ·have e : sc c = true := (sc_iff c).2 (.inr ⟨h3, h1⟩)
     rw [e]
     exact Ev.step (f := fun _ => some true) (fun k => by simp only [utf8_ValidRune.j0]; rw [if_neg (by decide), if_pos h3, if_pos h1]) (Ev.now _)
    ·have e : sc c = false := (sc_false c).2 (by omega)
     rw [e]
     exact Ev.step (f := fun _ => some false) (fun k => by simp only [utf8_ValidRune.j0]; rw [if_neg (by decide), if_neg h3]) (Ev.now _)
  ·have e : sc c = false := (sc_false c).2 (by omega)
   rw [e]
   exact Ev.congr (f := fun _ => some false) (fun k => by simp only [utf_Scalar.f]; rw [if_pos h0, if_neg h1]) (Ev.now _)
 ·have e : sc c = false := (sc_false c).2 (by omega)
  rw [e]
  exact Ev.congr (f := fun _ => some false) (fun k => by simp only [utf_Scalar.f]; rw [if_neg h0]) (Ev.now _)

theorem or192 (y : Int) (h0 : 0 ≤ y) (h1 : y < 32) : Go.bits .or .u8 192 y = 192 + y := u8_or192 y h0 h1
theorem or224 (y : Int) (h0 : 0 ≤ y) (h1 : y < 16) : Go.bits .or .u8 224 y = 224 + y := u8_or224 y h0 h1
theorem or240 (y : Int) (h0 : 0 ≤ y) (h1 : y < 8) : Go.bits .or .u8 240 y = 240 + y := u8_or240 y h0 h1
theorem append_ev (l : List Int) (c : Int) (h : sc c = true) (hl : l.length + 4 < 140737488355328) : Ev (fun k => utf8_AppendRune.f k l c) (l ++ encRaw c) := by
 have hs := (sc_iff c).1 h
 have hm : c % 4294967296 = c := by omega
 by_cases h0 : c < 128
 ·refine Ev.congr (f := fun _ => some (l ++ encRaw c)) (fun k => ?_) (Ev.now _)
  simp only [utf8_AppendRune.f, encRaw]
  rw [hm, if_pos (by omega), if_pos (by omega), if_pos h0]
  rw [show c % 256 = c by omega]
 refine Ev.congr (f := fun k => (utf8_appendRuneNonASCII.f k l c).bind fun t => some t) (fun k => by simp only [utf8_AppendRune.f]; rw [hm, if_neg (by omega)]) ?_
 refine Ev.bind (f := fun _ t => some t) (a := l ++ encRaw c) ?_ (Ev.now _)
 by_cases h1 : c < 2048
 ·refine Ev.congr (f := fun _ => some (l ++ encRaw c)) (fun k => ?_) (Ev.now _)
  simp only [utf8_appendRuneNonASCII.f, encRaw, Option.bind_some]
  rw [hm, if_pos (by omega), if_pos (by simp; omega), if_neg h0, if_pos h1, show c / 64 % 256 = c / 64 by omega, or192 _ (by omega) (by omega)]
 by_cases h2 : c < 65536
 ·have h3 : Ev (fun k => utf8_appendRuneNonASCII.j0 k l c c true) (l ++ encRaw c) := by
   refine Ev.step (f := fun _ => some (l ++ encRaw c)) (fun k => ?_) (Ev.now _)
   simp only [utf8_appendRuneNonASCII.j0, encRaw, Option.bind_some]
   rw [if_pos trivial, if_pos (by simp; omega), if_neg h0, if_neg h1, if_pos h2, show c / 4096 % 256 = c / 4096 by omega, or224 _ (by omega) (by omega)]
  by_cases h4 : c < 55296
  ·refine Ev.congr (fun k => ?_) h3
   simp only [utf8_appendRuneNonASCII.f]
   rw [hm, if_neg (by omega), if_pos h4, decide_eq_true h4]
  ·refine Ev.congr (fun k => ?_) h3
   simp only [utf8_appendRuneNonASCII.f]
   rw [hm, if_neg (by omega), if_neg h4, if_pos (by omega), decide_eq_true (by omega)]
 ·refine Ev.congr (f := fun k => utf8_appendRuneNonASCII.j0 k l c c false) (fun k => ?_) ?_
  ·simp only [utf8_appendRuneNonASCII.f]
   rw [hm, if_neg (by omega), if_neg (by omega), if_pos (by omega), decide_eq_false (by omega)]
  ·refine Ev.step (f := fun _ => some (l ++ encRaw c)) (fun k => ?_) (Ev.now _)
   simp only [utf8_appendRuneNonASCII.j0, encRaw, Option.bind_some]
   rw [if_neg (by decide), if_pos (by omega), if_pos (by omega), if_pos (by simp; omega), if_neg h0, if_neg h1, if_neg h2, show c / 262144 % 256 = c / 262144 by omega, or240 _ (by omega) (by omega)]

theorem wf_at {l : List Int} (hw : ∀ x ∈ l, (Lit.int .i64 x).wf = true) (i : Nat) (hi : i < l.length) : (Lit.int .i64 (l.getD i 0)).wf = true := by
 rw [List.getD_eq_getElem?_getD, List.getElem?_eq_getElem hi]
 exact hw _ (List.getElem_mem hi)
theorem drop_at (l : List Int) (i : Nat) (hi : i < l.length) : l.drop i = l.getD i 0 :: l.drop (i + 1) := by
 rw [List.getD_eq_getElem?_getD, List.getElem?_eq_getElem hi, List.drop_eq_getElem_cons hi]
 rfl
theorem encode_l (l : List Int) (hw : ∀ x ∈ l, (Lit.int .i64 x).wf = true) (hl : l.length ≤ 17592186044000) : ∀ (d i : Nat) (acc : List Int), i + d = l.length → acc.length ≤ 4 * i → Ev (fun k => utf_Encode.l0 k acc l (l.length : Int) (i : Int)) (acc ++ encL (l.drop i)) := by
 intro d
 induction d with
 | zero =>
  intro i acc hi ha
  rw [List.drop_eq_nil_of_le (by omega)]
  simp only [encL, List.flatMap_nil, List.append_nil]
  exact Ev.step (f := fun _ => some acc) (fun k => by simp only [utf_Encode.l0]; rw [if_neg (by omega)]) (Ev.now _)
 | succ d ih =>
  intro i acc hi ha
  have hlt : i < l.length := by omega
  rw [drop_at l i hlt, encL_cons, ← List.append_assoc]
  have hln := enc1_len (l.getD i 0)
  have hn := ih (i + 1) (acc ++ enc1 (l.getD i 0)) (by omega) (by rw [List.length_append]; omega)
  have e1 : wrap64 ((i : Int) + 1) = ((i + 1 : Nat) : Int) := by rw [w64 (by omega) (by omega)]; omega
  refine Ev.step (f := fun k => (utf_Scalar.f k (l.getD i 0)).bind fun t => if t = true then ((utf8_AppendRune.f k acc (wrap32 (l.getD i 0))).bind fun t225 => utf_Encode.l0 k t225 l (l.length : Int) ((i + 1 : Nat) : Int)) else ((utf8_AppendRune.f k acc 65533).bind fun t225 => utf_Encode.l0 k t225 l (l.length : Int) ((i + 1 : Nat) : Int)))
   (fun k => by simp only [utf_Encode.l0]; rw [if_pos (by omega), if_pos (by omega), if_pos (by omega), rd_at, e1]) ?_
  refine Ev.bind (scalar_ev _ (wf_at hw i hlt)) ?_
  by_cases hs : sc (l.getD i 0) = true
  ·have hr := (sc_iff _).1 hs
   have ef : enc1 (l.getD i 0) = encRaw (l.getD i 0) := by unfold enc1; rw [fix_of _ hs]
   rw [hs]
   refine Ev.congr (f := fun k => (utf8_AppendRune.f k acc (l.getD i 0)).bind fun t225 => utf_Encode.l0 k t225 l (l.length : Int) ((i + 1 : Nat) : Int)) (fun k => by rw [if_pos rfl, w32 (by omega) (by omega)]) ?_
   refine Ev.bind (append_ev acc _ hs (by omega)) ?_
   rw [← ef]
   exact hn
  ·have hs' : sc (l.getD i 0) = false := by simpa using hs
   have ef : enc1 (l.getD i 0) = encRaw 65533 := by unfold enc1 fix; rw [if_neg hs]
   rw [hs']
   refine Ev.congr (f := fun k => (utf8_AppendRune.f k acc 65533).bind fun t225 => utf_Encode.l0 k t225 l (l.length : Int) ((i + 1 : Nat) : Int)) (fun k => by rw [if_neg (by decide)]) ?_
   refine Ev.bind (append_ev acc _ (by decide) (by omega)) ?_
   rw [← ef]
   exact hn
theorem encode_ev (l : List Int) (hw : ∀ x ∈ l, (Lit.int .i64 x).wf = true) (hl : l.length ≤ 17592186044000) : Ev (fun k => utf_Encode.f k l) (encL l) := by
 have h := encode_l l hw hl l.length 0 [] (by omega) (by simp)
 simpa [utf_Encode.f] using h
end Go.Proofs.Yteoonjnmghponaa.U
namespace Go.Proofs.Yteoonjnmghponaa.W
open Go.RowKit Go.Proofs.Yteoonjnmghponaa.P Go.Proofs.Yteoonjnmghponaa.F Go.Proofs.Yteoonjnmghponaa.B Go.Proofs.YteoonjnmghponaaW.PrintWords Go.Proofs.YteoonjnmghponaaW.PrintLast
set_option linter.unusedVariables false
set_option linter.unusedSimpArgs false
def endB : List Int → Bool
 | [] => false
 | [_] => true
 | x :: y :: _ => cls x == 1 || cls x == 3 || (cls x == 2 && !(cls y == 3))
def endsL : List Int → List Bool
 | [] => []
 | x :: r => endB (x :: r) :: endsL r
theorem endsL_len : ∀ l : List Int, (endsL l).length = l.length
 | [] => rfl
 | x :: r => by rw [endsL, List.length_cons, List.length_cons, endsL_len r]
theorem btwT_two (a b c : Int) (j : Bool) : (btwT a b c j == 2) = false := by
 unfold btwT
 repeat' split
 all_goals decide
theorem step_small (p : Option Int) (x n : Int) (hn : n = 1 ∨ n = 2 ∨ n = 3) : ((stepC p x).1 == n) = (cls x == n) := by
 by_cases h8 : cls x = 8
 ·have h := step_ends p x h8
  have e1 : (cls x == n) = false := by rw [beq_eq_false_iff_ne]; omega
  rw [e1, beq_eq_false_iff_ne]
  intro e
  rw [e] at h
  rcases hn with rfl | rfl | rfl <;> cases h
 ·have e : stepC p x = (cls x, false) := by
   unfold stepC
   rw [if_neg h8]
  rw [e]
theorem btw_two (p : Option Int) (x y c : Int) (q : Option Int) (j : Bool) : (btw (stepC p x).1 (stepC q y).1 c j == 2) = (cls x == 1 || cls x == 3 || (cls x == 2 && !(cls y == 3))) := by
 rw [← step_small p x 1 (by omega), ← step_small p x 3 (by omega), ← step_small p x 2 (by omega), ← step_small q y 3 (by omega)]
 generalize (stepC p x).1 = a
 generalize (stepC q y).1 = b
 unfold btw
 by_cases a1 : a = 1
 ·simp [a1]
 ·by_cases a3 : a = 3
  ·simp [a3]
  ·rw [if_neg (by omega)]
   have e1 : (a == 1) = false := by rw [beq_eq_false_iff_ne]; exact a1
   have e3 : (a == 3) = false := by rw [beq_eq_false_iff_ne]; exact a3
   rw [e1, e3]
   by_cases a2 : a = 2
   ·by_cases b3 : b = 3
    ·rw [if_pos ⟨a2, b3⟩, a2, b3]
     decide
    ·rw [if_neg (fun h => b3 h.2), if_pos a2]
     have eb : (b == 3) = false := by rw [beq_eq_false_iff_ne]; exact b3
     rw [eb, a2]
     decide
   ·have e2 : (a == 2) = false := by rw [beq_eq_false_iff_ne]; exact a2
    rw [if_neg (fun h => a2 h.1), if_neg a2, e2]
    have er : (false || false || (false && !(b == 3))) = false := by simp
    rw [er]
    split
    ·decide
    ·split
     ·decide
     ·exact btwT_two _ _ _ _
theorem brk_ends : ∀ (l : List Int) (p : Option Int) (c : Int), (outL c (clsL p l)).map (fun v => v == 2) = endsL l
 | [], _, _ => rfl
 | [x], _, _ => rfl
 | x :: y :: r, p, c => by
  have ih := brk_ends (y :: r) (some (stepC p x).1) (upd c (stepC p x).1)
  simp only [clsL, outL, List.map_cons, endsL] at ih ⊢
  rw [ih, btw_two]
  rfl
def paraL : Int → Nat → List Int → List S47
 | _, _, [] => []
 | f, i, x :: r => if endB (x :: r) = true then (⟨f, ((i + 1 : Nat) : Int)⟩ : S47) :: paraL ((i + 1 : Nat) : Int) (i + 1) r else paraL f (i + 1) r
theorem para_loop (l : List Int) (hl : l.length ≤ 1048576) : ∀ (suf pre : List Int) (o : List S47) (f : Int), l = pre ++ suf → o.length ≤ pre.length →
  Ev (fun k => runs_Paragraphs.l0 k l o f l (l.length : Int) (pre.length : Int)) (o ++ paraL f pre.length suf)
 | [], pre, o, f, h, ho => by
  have hlen : l.length = pre.length := by rw [h]; simp
  refine Ev.step (f := fun _ => some o) (fun k => ?_) (by simpa [paraL] using Ev.now o)
  simp only [runs_Paragraphs.l0]
  rw [if_neg (by omega)]
 | x :: suf, pre, o, f, h, ho => by
  have hlen : l.length = pre.length + 1 + suf.length := by rw [h]; simp; omega
  have eL : (pre ++ [x]).length = pre.length + 1 := by simp
  have e1 : wrap64 ((pre.length : Int) + 1) = ((pre.length + 1 : Nat) : Int) := by rw [w64 (by omega) (by omega)]; omega
  have er : rd l (pre.length : Int) = x := by rw [h]; exact rd_at pre suf x
  have ihT := para_loop l hl suf (pre ++ [x]) (o ++ [(⟨f, ((pre.length + 1 : Nat) : Int)⟩ : S47)]) ((pre.length + 1 : Nat) : Int) (by rw [h]; simp) (by simp; omega)
  have ihF := para_loop l hl suf (pre ++ [x]) o f (by rw [h]; simp) (by simp; omega)
  rw [eL] at ihT ihF
  have eT : endB (x :: suf) = true → o ++ paraL f pre.length (x :: suf) = (o ++ [(⟨f, ((pre.length + 1 : Nat) : Int)⟩ : S47)]) ++ paraL ((pre.length + 1 : Nat) : Int) (pre.length + 1) suf := fun hb => by simp [paraL, hb]
  have eF : endB (x :: suf) = false → o ++ paraL f pre.length (x :: suf) = o ++ paraL f (pre.length + 1) suf := fun hb => by simp [paraL, hb]
  have hol : o.length < 8796093022208 := by omega
  have last : (((pre.length + 1 : Nat) : Int) == (l.length : Int)) = (suf == []) := by
   cases suf with
   | nil => simp only [List.length_nil] at hlen; rw [beq_iff_eq.2 (by omega)]; rfl
   | cons y r => simp only [List.length_cons] at hlen; rw [beq_eq_false_iff_ne.2 (by omega)]; rfl
  have ENTER : Ev (fun k => runs_Paragraphs.j1 k l o f (pre.length : Int) (suf == []) l (l.length : Int) (pre.length : Int) (cls x) (cls x == 1 || cls x == 3)) (o ++ paraL f pre.length (x :: suf)) := by
   by_cases h13 : (cls x == 1 || cls x == 3) = true
   ·have hb : endB (x :: suf) = true := by cases suf with
     | nil => rfl
     | cons y r => simp only [endB, h13, Bool.true_or]
    rw [eT hb]
    refine Ev.step (fun k => ?_) ihT
    simp only [runs_Paragraphs.j1, h13, if_true]
    rw [if_pos hol, e1]
   ·have h13' : (cls x == 1 || cls x == 3) = false := by simpa using h13
    cases suf with
    | nil =>
     rw [eT rfl]
     refine Ev.step (fun k => ?_) ihT
     simp only [runs_Paragraphs.j1, h13']
     by_cases h2 : cls x = 2
     ·rw [if_neg (by decide), if_pos h2, if_pos (by decide), if_pos hol, e1]
     ·rw [if_neg (by decide), if_neg h2, if_pos (by decide), if_pos hol, e1]
    | cons y r =>
     have ey : rd l ((pre.length + 1 : Nat) : Int) = y := by
      have := rd_at (pre ++ [x]) r y
      rw [eL] at this
      rw [h]
      simpa using this
     have e0 : ((y :: r : List Int) == []) = false := rfl
     by_cases h2 : cls x = 2
     ·by_cases hy : cls y = 3
      ·have hb : endB (x :: y :: r) = false := by simp [endB, h2, hy]
       have hy' : (lookT y).2.2 = 3 := hy
       rw [eF hb]
       refine Ev.step (fun k => ?_) ihF
       simp only [runs_Paragraphs.j1, h13', e0]
       rw [if_neg (by decide), if_pos h2, if_neg (by decide), e1, if_pos (by omega), if_pos (by simp only [List.length_cons] at hlen; omega), ey, show ucd_Look.f y = some (lookT y) from rfl, Option.bind_some, if_pos hy']
      ·have hb : endB (x :: y :: r) = true := by simp [endB, h2, hy]
       have hy' : ¬ (lookT y).2.2 = 3 := hy
       rw [eT hb]
       refine Ev.step (fun k => ?_) ihT
       simp only [runs_Paragraphs.j1, h13', e0]
       rw [if_neg (by decide), if_pos h2, if_neg (by decide), e1, if_pos (by omega), if_pos (by simp only [List.length_cons] at hlen; omega), ey, show ucd_Look.f y = some (lookT y) from rfl, Option.bind_some, if_neg hy', if_pos hol]
     ·have hb : endB (x :: y :: r) = false := by simp only [endB, h13', Bool.false_or]; simp [h2]
      rw [eF hb]
      refine Ev.step (fun k => ?_) ihF
      simp only [runs_Paragraphs.j1, h13', e0]
      rw [if_neg (by decide), if_neg h2, if_neg (by decide), e1]
  refine Ev.step (fun k => ?_) ENTER
  simp only [runs_Paragraphs.l0]
  rw [if_pos (by omega), if_pos (by omega), if_pos (by omega), er, show ucd_Look.f x = some (lookT x) from rfl, Option.bind_some, e1, last]
  change (if cls x = 1 then runs_Paragraphs.j1 k l o f (pre.length : Int) (suf == []) l (l.length : Int) (pre.length : Int) (cls x) (cls x == 1) else runs_Paragraphs.j1 k l o f (pre.length : Int) (suf == []) l (l.length : Int) (pre.length : Int) (cls x) (cls x == 3)) = _
  by_cases c1 : cls x = 1
  ·have e : (cls x == 1) = true := by rw [beq_iff_eq]; exact c1
   rw [if_pos c1, e, Bool.true_or]
  ·have e : (cls x == 1) = false := by rw [beq_eq_false_iff_ne]; exact c1
   rw [if_neg c1, e, Bool.false_or]

/-- Paragraphs that follow one another from a to b, each of which ends where M says 2. -/
def Par (M : List Int) : Int → List S47 → Int → Prop
 | a, [], b => a = b
 | a, p :: ps, b => p.f0 = a ∧ a < p.f1 ∧ p.f1 ≤ b ∧ rd M (p.f1 - 1) = 2 ∧ Par M p.f1 ps b
theorem par_of (M : List Int) : ∀ (suf : List Int) (i : Nat) (f : Int), 0 ≤ f → f ≤ i → (suf = [] → f = i) → (∀ j : Nat, (endsL suf).getD j false = true → rd M ((i + j : Nat) : Int) = 2) → Par M f (paraL f i suf) ((i + suf.length : Nat) : Int)
 | [], i, f, _, _, h, _ => by simpa [paraL, Par] using h rfl
 | x :: r, i, f, h0, hf, _, hM => by
  have e : i + (x :: r).length = (i + 1) + r.length := by simp; omega
  by_cases hb : endB (x :: r) = true
  ·have ih := par_of M r (i + 1) ((i + 1 : Nat) : Int) (by omega) (by omega) (fun _ => rfl) (fun j hj => by
    have := hM (j + 1) (by simpa [endsL] using hj)
    rwa [show i + (j + 1) = i + 1 + j by omega] at this)
   rw [e]
   simp only [paraL, hb, if_true, Par]
   refine ⟨trivial, by omega, by omega, ?_, ih⟩
   have := hM 0 (by simpa [endsL] using hb)
   rwa [Nat.add_zero, show (i : Int) = ((i + 1 : Nat) : Int) - 1 by omega] at this
  ·have hb' : endB (x :: r) = false := by simpa using hb
   have hr : r ≠ [] := by rintro rfl; exact hb rfl
   have ih := par_of M r (i + 1) f h0 (by omega) (fun h => absurd h hr) (fun j hj => by
    have := hM (j + 1) (by simpa [endsL] using hj)
    rwa [show i + (j + 1) = i + 1 + j by omega] at this)
   rw [e]
   simp only [paraL, hb', Bool.false_eq_true, if_false]
   exact ih
/-- What a text's paragraphs come to. -/
theorem paragraphs_some (l : List Int) (hl : l.length ≤ 1048576) : ∃ k M ps, breaks_Breaks.f k l = some M ∧ M.length = l.length ∧ runs_Paragraphs.f k l = some ps ∧ Par M 0 ps l.length := by
 have hb := brk_ev l (by omega)
 have hp : Ev (fun k => runs_Paragraphs.f k l) (paraL 0 0 l) := para_loop l hl l [] [] 0 rfl (by simp)
 have hE : (brkL l).map (fun v => v == 2) = endsL l := brk_ends l none 31
 obtain ⟨k1, h1⟩ := hb
 obtain ⟨k2, h2⟩ := hp
 refine ⟨max k1 k2, brkL l, paraL 0 0 l, h1 _ (Nat.le_max_left _ _), brkL_len l, h2 _ (Nat.le_max_right _ _), ?_⟩
 have := par_of (brkL l) l 0 0 (by omega) (by omega) (fun h => rfl) (fun j hj => ?_)
 ·simpa using this
 ·rw [← hE] at hj
  have hlen : j < (brkL l).length := by
   rcases Nat.lt_or_ge j (brkL l).length with h | h
   ·exact h
   ·rw [List.getD_eq_getElem?_getD, List.getElem?_eq_none (by simpa using h)] at hj
    cases hj
  rw [List.getD_eq_getElem?_getD, List.getElem?_map, List.getElem?_eq_getElem hlen] at hj
  rw [Nat.zero_add, rd, Int.toNat_natCast, List.getD_eq_getElem?_getD, List.getElem?_eq_getElem hlen]
  simpa using hj
end Go.Proofs.Yteoonjnmghponaa.W
namespace Go.Proofs.Yteoonjnmghponaa.W
open Go.RowKit Go.Proofs.Yteoonjnmghponaa.P Go.Proofs.Yteoonjnmghponaa.F Go.Proofs.Yteoonjnmghponaa.B Go.Proofs.YteoonjnmghponaaW.PrintWords Go.Proofs.YteoonjnmghponaaW.PrintLast
set_option linter.unusedVariables false
set_option linter.unusedSimpArgs false
theorem wf_sc {x : Int} (h : U.sc x = true) : (Lit.int .i64 x).wf = true := by
 have h1 := (U.sc_iff x).1 h
 have e1 : IntKind.i64.min = -9223372036854775808 := by decide
 have e2 : IntKind.i64.max = 9223372036854775807 := by decide
 simp [Lit.wf, e1, e2]
 omega
theorem dec_some {b : List Int} (hB : U.Byt b) (hl : b.length ≤ 1048576) : ∃ l k enc, utf_Decode.f b = some l ∧ l.length ≤ b.length ∧ utf_Encode.f k l = some enc := by
 have hf := U.dec_facts b.length b (Nat.le_refl _) hB
 obtain ⟨k, h⟩ := U.encode_ev (U.dec b) (fun x hx => wf_sc (hf.1 x hx)) (by omega)
 exact ⟨U.dec b, k, _, U.decode_f b hB (by omega), hf.2.1, h k (Nat.le_refl _)⟩
theorem dec0 : utf_Decode.f [97, 10, 98] = some [97, 10, 98] := by
 have e : U.dec [97, 10, 98] = [97, 10, 98] := by decide +kernel
 rw [U.decode_f _ (by intro x hx; simp at hx; omega) (by rw [e]; simp), e]
theorem paras0 : ∃ k ps, runs_Paragraphs.f k [97, 10, 98] = some ps ∧ ps.length = 2 := by
 obtain ⟨k, h⟩ := (para_loop [97, 10, 98] (by simp) [97, 10, 98] [] [] 0 rfl (by simp) : Ev (fun k => runs_Paragraphs.f k [97, 10, 98]) (paraL 0 0 [97, 10, 98]))
 exact ⟨k, _, h k (Nat.le_refl _), by decide +kernel⟩
end Go.Proofs.Yteoonjnmghponaa.W
