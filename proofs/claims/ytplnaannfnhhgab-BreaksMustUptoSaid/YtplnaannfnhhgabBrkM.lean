/- Where lines may end, plain: what the printed functions of breaks come to, as one walk through the text. -/
import Derived.Test.YtplnaannfnhhgabMx4
namespace Go.Proofs.Ytplnaannfnhhgab.B
open Go.RowKit Go.Proofs.Ytplnaannfnhhgab.M Go.Proofs.Ytplnaannfnhhgab.F Go.Proofs.YtplnaannfnhhgabW.PrintWords Go.Proofs.YtplnaannfnhhgabW.PrintLast
set_option linter.unusedVariables false
set_option linter.unusedSimpArgs false

theorem w64 {x : Int} (h0 : -9223372036854775808 ≤ x) (h1 : x ≤ 9223372036854775807) : wrap64 x = x := by
  unfold wrap64; omega

def cls (c : Int) : Int := (lookT c).2.2
def ends (c : Int) : Bool := c == 1 || c == 2 || c == 3 || c == 4 || c == 5
def stepC (p : Option Int) (x : Int) : Int × Bool :=
  if cls x = 8 then match p with
    | none => (0, false)
    | some p => if ends p then (0, false) else (p, true)
  else (cls x, false)
def clsL : Option Int → List Int → List (Int × Bool)
  | _, [] => []
  | p, x :: l => stepC p x :: clsL (some (stepC p x).1) l
def pairP (a b : Int) : Bool :=
  if a = 0 ∨ a = 17 then b == 0 || b == 17 || b == 18 || b == 19 || b == 11
  else if a = 18 ∨ a = 19 then b == 0 || b == 17 || b == 11 || (a == 18 && b == 20)
  else if a = 12 then b == 0 || b == 17 || b == 18 || b == 19
  else if a = 10 ∨ a = 16 ∨ a = 11 then b == 17
  else if a = 15 then b == 0 || b == 17
  else if a = 20 then b == 19
  else false
def btwT (a b c : Int) (j : Bool) : Int :=
  if j = true then 0
  else if a = 7 ∨ b = 7 ∨ a = 6 ∨ (b = 6 ∧ a ≠ 4 ∧ a ≠ 9 ∧ a ≠ 10) then 0
  else if b = 12 ∨ b = 14 ∨ b = 15 ∨ b = 16 ∨ c = 11 ∨ (c = 13 ∧ b = 11) then 0
  else if a = 4 then 1
  else if a = 13 ∨ b = 13 ∨ b = 9 ∨ b = 10 ∨ pairP a b = true then 0
  else 1
def btw (a b c : Int) (j : Bool) : Int :=
  if a = 1 ∨ a = 3 then 2 else if a = 2 ∧ b = 3 then 0 else if a = 2 then 2
  else if b = 1 ∨ b = 2 ∨ b = 3 ∨ b = 4 ∨ b = 5 then 0
  else if c = 5 then 1
  else btwT a b c j
def upd (c a : Int) : Int := if a = 4 then c else a
def outL : Int → List (Int × Bool) → List Int
  | _, [] => []
  | _, [_] => [2]
  | c, x :: y :: r => btw x.1 y.1 (upd c x.1) y.2 :: outL (upd c x.1) (y :: r)
def brkL (l : List Int) : List Int := outL 31 (clsL none l)

theorem step_ends (p : Option Int) (x : Int) (h : cls x = 8) : ends (stepC p x).1 = false := by
  unfold stepC
  rw [if_pos h]
  split
  · rfl
  · split
    · rfl
    · rename_i hh
      simpa using hh
/-! ### The functions of the rules, by looking at every class -/
def Cl (c : Int) : Prop := 0 ≤ c ∧ c ≤ 20
def cl21 : List Int := (List.range 21).map (fun n : Nat => (n : Int))
theorem cl_mem {c : Int} (h : Cl c) : c ∈ cl21 := by
  have h0 := h.1
  have h1 := h.2
  unfold cl21
  rw [List.mem_map]
  exact ⟨c.toNat, List.mem_range.2 (by omega), by omega⟩
theorem cls_cl (c : Int) : Cl (cls c) := by
  have hall : ∀ r ∈ tab, Cl (r.getD 4 0) := by
    have : tab.all (fun r => decide (0 ≤ r.getD 4 0 ∧ r.getD 4 0 ≤ 20)) = true := by decide +kernel
    intro r hr
    have := List.all_eq_true.1 this r hr
    simpa [Cl] using this
  unfold cls lookT
  split
  · rename_i r hr
    split
    · exact hall r (List.mem_of_find?_eq_some hr)
    · exact ⟨Int.le_refl _, by decide⟩
  · exact ⟨Int.le_refl _, by decide⟩
theorem stepC_cl (p : Option Int) (x : Int) (hp : ∀ q, p = some q → Cl q) : Cl (stepC p x).1 := by
  unfold stepC
  split
  · split
    · exact ⟨Int.le_refl _, by decide⟩
    · split
      · exact ⟨Int.le_refl _, by decide⟩
      · exact hp _ rfl
  · exact cls_cl x
theorem clsL_cl : ∀ (l : List Int) (p : Option Int), (∀ q, p = some q → Cl q) → ∀ z ∈ clsL p l, Cl z.1
  | [], _, _, z, hz => by cases hz
  | x :: l, p, hp, z, hz => by
    have h1 := stepC_cl p x hp
    unfold clsL at hz
    rcases List.mem_cons.1 hz with rfl | hz
    · exact h1
    · exact clsL_cl l _ (fun q hq => by cases hq; exact h1) z hz
theorem ends_ev {p : Int} (h : Cl p) : Ev (fun k => breaks_ends.f k p) (ends p) := by
  have hall : ∀ p ∈ cl21, breaks_ends.f 8 p = some (ends p) := by decide +kernel
  exact Ev.of (fun k => breaks_ends.mono _ k) (hall p (cl_mem h))
set_option maxRecDepth 100000 in
theorem btw_all : ∀ a ∈ cl21, ∀ b ∈ cl21, ∀ c ∈ 31 :: cl21, ∀ j ∈ [false, true], breaks_between.f 12 a b c j = some (btw a b c j) := by decide +kernel
theorem btw_ev {a b c : Int} {j : Bool} (ha : Cl a) (hb : Cl b) (hc : Cl c ∨ c = 31) : Ev (fun k => breaks_between.f k a b c j) (btw a b c j) := by
  refine Ev.of (fun k => breaks_between.mono _ _ _ _ k) (btw_all a (cl_mem ha) b (cl_mem hb) c ?_ j (by cases j <;> simp))
  rcases hc with h | rfl
  · exact List.mem_cons_of_mem _ (cl_mem h)
  · exact List.mem_cons_self

/-! ### The classes -/
def lastC : Option Int → List Int → Option Int
  | p, [] => p
  | p, x :: l => lastC (some (stepC p x).1) l
theorem clsL_append : ∀ (a : List Int) (p : Option Int) (b : List Int), clsL p (a ++ b) = clsL p a ++ clsL (lastC p a) b
  | [], _, _ => rfl
  | x :: a, p, b => by simp only [List.cons_append, clsL, lastC, clsL_append a]
theorem clsL_len : ∀ (a : List Int) (p : Option Int), (clsL p a).length = a.length
  | [], _ => rfl
  | x :: a, p => by simp only [clsL, List.length_cons, clsL_len a]
theorem lastC_last : ∀ (a : List Int) (p : Option Int), a ≠ [] → lastC p a = some (rd ((clsL p a).map (·.1)) ((a.length : Int) - 1))
  | [], _, h => absurd rfl h
  | [x], p, _ => by simp [lastC, clsL, rd]
  | x :: y :: a, p, _ => by
    have := lastC_last (y :: a) (some (stepC p x).1) (by simp)
    rw [lastC, this, show clsL p (x :: y :: a) = stepC p x :: clsL (some (stepC p x).1) (y :: a) from rfl, List.map_cons]
    simp only [List.length_cons, rd]
    have e1 : ((((a.length + 1 + 1 : Nat) : Int)) - 1).toNat = a.length + 1 := by omega
    have e2 : ((((a.length + 1 : Nat) : Int)) - 1).toNat = a.length := by omega
    rw [e1, e2, List.getD_cons_succ]
theorem set_mid {α : Type} (A : List α) (n : Nat) (d v : α) (i : Nat) (hi : i = A.length) : (A ++ List.replicate (n + 1) d).set i v = (A ++ [v]) ++ List.replicate n d := by
  subst hi
  rw [List.set_append_right _ _ (Nat.le_refl _), Nat.sub_self, List.replicate_succ, List.set_cons_zero, List.append_assoc]
  rfl
theorem rd_at (pre suf : List Int) (x : Int) : rd (pre ++ x :: suf) ((pre.length : Nat) : Int) = x := by
  simp [rd]
theorem rdOf_at {α : Type} (d : α) (pre suf : List α) (x : α) : rdOf d (pre ++ x :: suf) ((pre.length : Nat) : Int) = x := by
  simp [rdOf]
theorem rd_left (A B : List Int) (i : Int) (h : i.toNat < A.length) : rd (A ++ B) i = rd A i := by
  simp only [rd, List.getD_eq_getElem?_getD]
  rw [List.getElem?_append_left h]

theorem classes_loop (l : List Int) (hl : l.length ≤ 35184372088832) : ∀ (suf pre : List Int), l = pre ++ suf →
    Ev (fun k => breaks_classes.l0 k ((clsL none pre).map (·.1) ++ List.replicate suf.length 0) ((clsL none pre).map (·.2) ++ List.replicate suf.length false) l (l.length : Int) (pre.length : Int))
      ((clsL none l).map (·.1), (clsL none l).map (·.2))
  | [], pre, h => by
    rw [List.append_nil] at h
    subst h
    refine Ev.step (f := fun _ => some ((clsL none l).map (fun z : Int × Bool => z.1), (clsL none l).map (fun z : Int × Bool => z.2))) (fun k => ?_) (Ev.now _)
    simp only [breaks_classes.l0]
    rw [if_neg (by omega)]
    simp
  | x :: suf, pre, h => by
    have hlen : l.length = pre.length + suf.length + 1 := by rw [h]; simp; omega
    have ih := classes_loop l hl suf (pre ++ [x]) (by rw [h]; simp)
    have ec : clsL none (pre ++ [x]) = clsL none pre ++ [stepC (lastC none pre) x] := by rw [clsL_append]; rfl
    have hA : ((clsL none pre).map (·.1)).length = pre.length := by rw [List.length_map, clsL_len]
    have hB : ((clsL none pre).map (·.2)).length = pre.length := by rw [List.length_map, clsL_len]
    have e1 : wrap64 ((pre.length : Int) + 1) = (((pre ++ [x]).length : Nat) : Int) := by rw [w64 (by omega) (by omega)]; simp
    have er : rd l (pre.length : Int) = x := by rw [h]; exact rd_at pre suf x
    have hL : ucd_Look.f x = some (lookT x) := rfl
    have l1 : (((clsL none pre).map (fun z : Int × Bool => z.1) ++ List.replicate (x :: suf).length (0 : Int)).length : Int) = l.length := by simp [clsL_len]; omega
    have l2 : (((clsL none pre).map (fun z : Int × Bool => z.2) ++ List.replicate (x :: suf).length false).length : Int) = l.length := by simp [clsL_len]; omega
    have st0 : ∀ v, ((clsL none pre).map (·.1) ++ List.replicate (x :: suf).length (0 : Int)).set ((pre.length : Int)).toNat v = ((clsL none pre).map (·.1) ++ [v]) ++ List.replicate suf.length 0 := fun v => set_mid _ _ _ _ _ (by omega)
    have st1 : ((clsL none pre).map (·.2) ++ List.replicate (x :: suf).length false).set ((pre.length : Int)).toNat true = ((clsL none pre).map (·.2) ++ [true]) ++ List.replicate suf.length false := set_mid _ _ _ _ _ (by omega)
    have sk : (clsL none pre).map (fun z : Int × Bool => z.2) ++ List.replicate (x :: suf).length false = ((clsL none pre).map (fun z : Int × Bool => z.2) ++ [false]) ++ List.replicate suf.length false := by simp [List.replicate_succ]
    rw [ec, List.map_append, List.map_append] at ih
    simp only [List.map_cons, List.map_nil] at ih
    by_cases h8 : cls x = 8
    · have h8' : (lookT x).2.2 = 8 := h8
      cases hp : pre with
      | nil =>
        subst hp
        have es : stepC (lastC none []) x = (0, false) := by simp [stepC, lastC, h8]
        rw [es] at ih
        refine Ev.step (fun k => ?_) ih
        simp only [breaks_classes.l0]
        rw [if_pos (by simp only [List.length_nil]; omega), if_pos (by simp), if_pos (by simp only [List.length_nil]; omega), er, hL, Option.bind_some, if_pos h8', if_neg (by simp), l1, if_pos (by simp only [List.length_nil]; omega), st0, sk, e1]
      | cons y pre' =>
        have hpn : pre ≠ [] := by rw [hp]; simp
        have hpl : 0 < pre.length := by rw [hp]; simp
        rw [← hp]
        have el := lastC_last pre none hpn
        have e2 : wrap64 ((pre.length : Int) - 1) = (pre.length : Int) - 1 := w64 (by omega) (by omega)
        have er2 : rd ((clsL none pre).map (·.1) ++ List.replicate (x :: suf).length 0) ((pre.length : Int) - 1) = rd ((clsL none pre).map (·.1)) ((pre.length : Int) - 1) := rd_left _ _ _ (by omega)
        generalize hq : rd ((clsL none pre).map (·.1)) ((pre.length : Int) - 1) = q at *
        have hcl : Cl q := by
          have hm : q ∈ (clsL none pre).map (·.1) := by
            rw [← hq, rd, List.getD_eq_getElem?_getD, List.getElem?_eq_getElem (by omega)]
            exact List.getElem_mem _
          obtain ⟨z, hz, rfl⟩ := List.mem_map.1 hm
          exact clsL_cl pre none (fun _ h => by cases h) z hz
        refine Ev.step (f := fun k => (breaks_ends.f k q).bind fun t138 => (if t138 = true then (breaks_classes.l0 k (((clsL none pre).map (·.1) ++ [0]) ++ List.replicate suf.length 0) (((clsL none pre).map (·.2) ++ [false]) ++ List.replicate suf.length false) l (l.length : Int) ((pre ++ [x]).length : Nat)) else (breaks_classes.l0 k (((clsL none pre).map (·.1) ++ [q]) ++ List.replicate suf.length 0) (((clsL none pre).map (·.2) ++ [true]) ++ List.replicate suf.length false) l (l.length : Int) ((pre ++ [x]).length : Nat)))) (fun k => ?_) ?_
        · simp only [breaks_classes.l0]
          rw [if_pos (by omega), if_pos (by omega), if_pos (by omega), er, hL, Option.bind_some, if_pos h8', if_pos (by omega), e2, if_pos (by omega), l1, if_pos (by omega), l2, if_pos (by omega), if_pos (by omega), er2, st0, st0, st1, e1]
          simp only [sk, show ((pre.length : Nat) : Int) < (l.length : Int) from by omega, if_true]
        · refine Ev.bind (ends_ev hcl) ?_
          by_cases he : ends q = true
          · have es : stepC (lastC none pre) x = (0, false) := by rw [el]; simp [stepC, h8, he]
            rw [es] at ih
            simp only [he, if_true]
            exact ih
          · have he' : ends q = false := by simpa using he
            have es : stepC (lastC none pre) x = (q, true) := by rw [el]; simp [stepC, h8, he']
            rw [es] at ih
            simp only [he', Bool.false_eq_true, if_false]
            exact ih
    · have h8' : ¬ (lookT x).2.2 = 8 := h8
      have es : stepC (lastC none pre) x = ((lookT x).2.2, false) := by unfold stepC; rw [if_neg h8]; rfl
      rw [es] at ih
      refine Ev.step (fun k => ?_) ih
      simp only [breaks_classes.l0]
      rw [if_pos (by omega), if_pos (by omega), if_pos (by omega), er, hL, Option.bind_some, if_neg h8', l1, if_pos (by omega), st0, sk, e1]
theorem classes_ev (l : List Int) (hl : l.length ≤ 35184372088832) : Ev (fun k => breaks_classes.f k l) ((clsL none l).map (·.1), (clsL none l).map (·.2)) := by
  have h := classes_loop l hl l [] rfl
  refine Ev.congr (fun k => ?_) h
  simp only [breaks_classes.f]
  rw [if_pos (by omega), if_pos (by omega), if_pos (by omega)]
  simp [clsL]

/-! ### The ends -/
theorem upd_cl {c a : Int} (hc : Cl c ∨ c = 31) (ha : Cl a) : Cl (upd c a) ∨ upd c a = 31 := by
  unfold upd
  split
  · exact hc
  · exact Or.inl ha
theorem breaks_loop (l : List Int) (C : List (Int × Bool)) (hl : l.length ≤ 35184372088832) (hC : C.length = l.length) (hcl : ∀ z ∈ C, Cl z.1) :
    ∀ (suf pre : List (Int × Bool)) (o : List Int) (c : Int), C = pre ++ suf → o.length = pre.length → (Cl c ∨ c = 31) →
      Ev (fun k => breaks_Breaks.l0 k l (C.map (·.1)) (C.map (·.2)) (o ++ List.replicate suf.length 0) c (C.map (·.1)) ((C.map (·.1)).length : Int) (pre.length : Int)) (o ++ outL c suf)
  | [], pre, o, c, h, ho, hc => by
    rw [List.append_nil] at h
    refine Ev.step (f := fun _ => some o) (fun k => ?_) (by simpa [outL] using Ev.now o)
    simp only [breaks_Breaks.l0]
    rw [if_neg (by rw [List.length_map, h]; omega)]
    simp
  | x :: suf, pre, o, c, h, ho, hc => by
    have hlen : C.length = pre.length + suf.length + 1 := by rw [h]; simp; omega
    have hx : Cl x.1 := hcl x (by rw [h]; simp)
    have hu := upd_cl hc hx
    have e1 : wrap64 ((pre.length : Int) + 1) = (((pre ++ [x]).length : Nat) : Int) := by rw [w64 (by omega) (by omega)]; simp
    have eL : ((pre ++ [x]).length : Nat) = pre.length + 1 := by simp
    have hm1 : ((C.map (·.1)).length : Int) = C.length := by simp
    have hm2 : ((C.map (·.2)).length : Int) = C.length := by simp
    have er : rd (C.map (·.1)) (pre.length : Int) = x.1 := by
      rw [h, List.map_append, List.map_cons]
      have := rd_at (pre.map (·.1)) (suf.map (·.1)) x.1
      rwa [List.length_map] at this
    have lo : ((o ++ List.replicate (x :: suf).length (0 : Int)).length : Int) = C.length := by simp; omega
    have st0 : ∀ v, (o ++ List.replicate (x :: suf).length (0 : Int)).set ((pre.length : Int)).toNat v = (o ++ [v]) ++ List.replicate suf.length 0 := fun v => set_mid _ _ _ _ _ (by omega)
    cases suf with
    | nil =>
      have ih := breaks_loop l C hl hC hcl [] (pre ++ [x]) (o ++ [2]) (upd c x.1) (by rw [h]; simp) (by simp [ho]) hu
      have eo : o ++ outL c [x] = (o ++ [2]) ++ outL (upd c x.1) [] := by simp [outL]
      rw [eo]
      have hlast : ¬ wrap64 ((pre.length : Int) + 1) < (l.length : Int) := by rw [e1, eL]; simp at hlen; omega
      refine Ev.step (fun k => ?_) ih
      simp only [breaks_Breaks.l0]
      rw [hm1, if_pos (by omega), if_pos (by omega), if_pos (by omega), er]
      by_cases h4 : x.1 = 4
      · rw [if_pos h4, if_neg hlast, lo, if_pos (by omega), st0, e1]
        simp only [upd, h4, if_true]
      · rw [if_neg h4, if_neg hlast, lo, if_pos (by omega), st0, e1]
        simp only [upd, h4, if_false]
    | cons y r =>
      have hy : Cl y.1 := hcl y (by rw [h]; simp)
      have ih := breaks_loop l C hl hC hcl (y :: r) (pre ++ [x]) (o ++ [btw x.1 y.1 (upd c x.1) y.2]) (upd c x.1) (by rw [h]; simp) (by simp [ho]) hu
      have eo : o ++ outL c (x :: y :: r) = (o ++ [btw x.1 y.1 (upd c x.1) y.2]) ++ outL (upd c x.1) (y :: r) := by simp [outL]
      rw [eo]
      have hC' : C = (pre ++ [x]) ++ y :: r := by rw [h]; simp
      have er1 : rd (C.map (·.1)) (((pre ++ [x]).length : Nat) : Int) = y.1 := by
        have := rd_at ((pre ++ [x]).map (·.1)) (r.map (·.1)) y.1
        rw [List.length_map] at this
        rw [hC', List.map_append, List.map_cons]
        exact this
      have er2 : rdOf false (C.map (·.2)) (((pre ++ [x]).length : Nat) : Int) = y.2 := by
        have := rdOf_at false ((pre ++ [x]).map (·.2)) (r.map (·.2)) y.2
        rw [List.length_map] at this
        rw [hC', List.map_append, List.map_cons]
        exact this
      have hin : (((pre ++ [x]).length : Nat) : Int) < (l.length : Int) := by rw [eL]; simp at hlen; omega
      refine Ev.step (f := fun k => (breaks_between.f k x.1 y.1 (upd c x.1) y.2).bind fun t => breaks_Breaks.l0 k l (C.map (·.1)) (C.map (·.2)) ((o ++ [t]) ++ List.replicate (y :: r).length 0) (upd c x.1) (C.map (·.1)) ((C.map (·.1)).length : Int) (((pre ++ [x]).length : Nat) : Int)) (fun k => ?_) (Ev.bind (btw_ev hx hy hu) ih)
      simp only [breaks_Breaks.l0]
      rw [hm1, if_pos (by omega), if_pos (by omega), if_pos (by omega), er]
      by_cases h4 : x.1 = 4
      · rw [if_pos h4, e1, if_pos hin, if_pos (by omega), if_pos (by omega), hm2, if_pos (by omega), er1, er2]
        simp only [upd, h4, if_true, lo, show ((pre.length : Nat) : Int) < (C.length : Int) from by omega, st0]
      · rw [if_neg h4, e1, if_pos hin, if_pos (by omega), if_pos (by omega), hm2, if_pos (by omega), er1, er2]
        simp only [upd, h4, if_false, if_true, lo, show ((pre.length : Nat) : Int) < (C.length : Int) from by omega, st0]
theorem brk_ev (l : List Int) (hl : l.length ≤ 35184372088832) : Ev (fun k => breaks_Breaks.f k l) (brkL l) := by
  have hc := clsL_len l none
  refine Ev.bind (classes_ev l hl) ?_
  have h := breaks_loop l (clsL none l) hl hc (clsL_cl l none (fun _ h => by cases h)) (clsL none l) [] [] 31 rfl rfl (Or.inr rfl)
  refine Ev.congr (fun k => ?_) h
  simp only
  rw [if_pos (by omega), if_pos (by omega), List.nil_append, hc]
  simp

/-! ### SameInts -/
theorem same_loop (l m : List Int) (hl : l.length = m.length) (hb : l.length ≤ 4611686018427387904) : ∀ (d i : Nat), i + d = l.length →
    Ev (fun k => serifref02_SameInts.l0 k l m (l.length : Int) (i : Int)) (decide (l.drop i = m.drop i))
  | 0, i, h => by
    refine Ev.step (f := fun _ => some true) (fun k => ?_) ?_
    · simp only [serifref02_SameInts.l0]
      rw [if_neg (by omega)]
    · rw [List.drop_eq_nil_of_le (by omega), List.drop_eq_nil_of_le (by omega)]
      exact Ev.now _
  | d + 1, i, h => by
    have hi : i < l.length := by omega
    have ih := same_loop l m hl hb d (i + 1) (by omega)
    have e1 : wrap64 ((i : Int) + 1) = ((i + 1 : Nat) : Int) := by rw [w64 (by omega) (by omega)]; omega
    have r1 : rd l (i : Int) = l[i] := by simp [rd, hi]
    have r2 : rd m (i : Int) = m[i]'(by omega) := by simp [rd, List.getElem?_eq_getElem (show i < m.length by omega)]
    rw [List.drop_eq_getElem_cons hi, List.drop_eq_getElem_cons (show i < m.length by omega)]
    by_cases he : l[i] = m[i]'(by omega)
    · have : decide (l[i] :: l.drop (i + 1) = m[i]'(by omega) :: m.drop (i + 1)) = decide (l.drop (i + 1) = m.drop (i + 1))   := by simp only [he, List.cons.injEq, true_and]
      rw [this]
      refine Ev.step (fun k => ?_) ih
      simp only [serifref02_SameInts.l0]
      rw [if_pos (by omega), if_pos (by omega), if_pos (by omega), if_pos (by omega), r1, r2, if_pos he, e1]
    · have : decide (l[i] :: l.drop (i + 1) = m[i]'(by omega) :: m.drop (i + 1)) = false := decide_eq_false (fun hh => he (List.cons.inj hh).1)
      rw [this]
      refine Ev.step (f := fun _ => some false) (fun k => ?_) (Ev.now _)
      simp only [serifref02_SameInts.l0]
      rw [if_pos (by omega), if_pos (by omega), if_pos (by omega), if_pos (by omega), r1, r2, if_neg he]
theorem same_ev (l m : List Int) (hb : l.length ≤ 4611686018427387904) : Ev (fun k => serifref02_SameInts.f k l m) (decide (l = m)) := by
  by_cases hl : l.length = m.length
  · have := same_loop l m hl hb l.length 0 (by omega)
    refine Ev.congr (fun k => ?_) this
    simp only [serifref02_SameInts.f]
    rw [if_pos (by omega)]
    rfl
  · have e : decide (l = m) = false := decide_eq_false (fun h => hl (by rw [h]))
    rw [e]
    refine Ev.congr (f := fun _ => some false) (fun k => ?_) (Ev.now _)
    simp only [serifref02_SameInts.f]
    rw [if_neg (by omega)]
theorem same_true (l : List Int) (hb : l.length ≤ 4611686018427387904) : Ev (fun k => serifref02_SameInts.f k l l) true := by
  have := same_ev l l hb
  simpa using this
theorem outL_len : ∀ (c : Int) (l : List (Int × Bool)), (outL c l).length = l.length
  | _, [] => rfl
  | _, [_] => rfl
  | c, x :: y :: r => by rw [outL, List.length_cons, outL_len (upd c x.1) (y :: r)]; rfl
theorem brkL_len (l : List Int) : (brkL l).length = l.length := by rw [brkL, outL_len, clsL_len]
theorem alive_ev : Ev (fun k => seriflaw18_breaksAlive.f k) true := by
  have b1 : brkL [97, 32, 98] = [0, 1, 2] := by decide +kernel
  have b2 : brkL [49, 48, 37] = [0, 0, 2] := by decide +kernel
  refine Ev.bind (brk_ev _ (by simp)) ?_
  rw [b1]
  refine Ev.bind (same_true _ (by simp)) ?_
  simp only [if_true]
  refine Ev.bind (brk_ev _ (by simp)) ?_
  rw [b2]
  exact Ev.bind (f := fun _ t => some t) (same_true _ (by simp)) (Ev.now _)
end Go.Proofs.Ytplnaannfnhhgab.B
