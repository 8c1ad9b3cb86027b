/- What the printed functions of the reference's UTF-8 come to, in plain words: they are 'dec' and 'encL', too. -/
import Derived.Test.YtplnaannfnhhgaaUp
namespace Go.Proofs.Ytplnaannfnhhgaa.U
open Go.RowKit Go.Proofs.Ytplnaannfnhhgaa.P Go.Proofs.Ytplnaannfnhhgaa.F Go.Proofs.YtplnaannfnhhgaaW.PrintWords Go.Proofs.YtplnaannfnhhgaaW.PrintLast
set_option linter.unusedVariables false
set_option linter.unusedSimpArgs false

theorem same_l (l : List Int) (hl : l.length ≤ 140737488355328) : ∀ (d i : Nat), i + d = l.length → Ev (fun k => serifref02_SameInts.l0 k l l (l.length : Int) (i : Int)) true := by
  intro d
  induction d with
  | zero => intro i hi; exact Ev.step (f := fun _ => some true) (fun k => by simp only [serifref02_SameInts.l0]; rw [if_neg (by omega)]) (Ev.now _)
  | succ d ih =>
    intro i hi
    have e1 : wrap64 ((i : Int) + 1) = ((i + 1 : Nat) : Int) := by rw [w64 (by omega) (by omega)]; omega
    exact Ev.step (fun k => by simp only [serifref02_SameInts.l0]; rw [if_pos (by omega), if_pos (by omega), if_pos (by omega), if_pos (by omega), if_pos trivial, e1]) (ih (i + 1) (by omega))
theorem same_ev (l : List Int) (hl : l.length ≤ 140737488355328) : Ev (fun k => serifref02_SameInts.f k l l) true :=
  Ev.congr (fun k => by simp only [serifref02_SameInts.f]; rw [if_pos trivial]; rfl) (same_l l hl l.length 0 (by omega))

theorem rscalar (c : Int) : serifref11_Scalar.f c = some (sc c) := by
  unfold serifref11_Scalar.f sc
  repeat' split
  all_goals (rw [Option.some.injEq]; symm)
  all_goals first | (rw [decide_eq_true_eq]; omega) | (rw [decide_eq_false_iff_not]; omega) | (rw [Bool.eq_iff_iff]; simp only [decide_eq_true_eq]; omega)
theorem one_j (c : Int) (h0 : 0 ≤ c) (h1 : c ≤ 1114111) : Ev (fun k => serifref11_One.j0 k c) (encRaw c) := by
  refine Ev.step (f := fun _ => some (encRaw c)) (fun k => ?_) (Ev.now _)
  simp only [serifref11_One.j0, encRaw]
  rw [Int.tdiv_eq_ediv_of_nonneg h0, Int.tdiv_eq_ediv_of_nonneg h0, Int.tdiv_eq_ediv_of_nonneg h0, Int.tmod_eq_emod_of_nonneg h0]
  rw [w64 (x := c / 64) (by omega) (by omega), w64 (x := c / 4096) (by omega) (by omega), w64 (x := c / 262144) (by omega) (by omega)]
  rw [Int.tmod_eq_emod_of_nonneg (show 0 ≤ c / 64 by omega), Int.tmod_eq_emod_of_nonneg (show 0 ≤ c / 4096 by omega)]
  repeat rw [w64 (by omega) (by omega)]
  repeat' split
  · rw [show c % 256 = c by omega]
  · rw [show (192 + c / 64) % 256 = 192 + c / 64 by omega, show (128 + c % 64) % 256 = 128 + c % 64 by omega]
  · rw [show (224 + c / 4096) % 256 = 224 + c / 4096 by omega, show (128 + c / 64 % 64) % 256 = 128 + c / 64 % 64 by omega, show (128 + c % 64) % 256 = 128 + c % 64 by omega]
  · rw [show (240 + c / 262144) % 256 = 240 + c / 262144 by omega, show (128 + c / 4096 % 64) % 256 = 128 + c / 4096 % 64 by omega, show (128 + c / 64 % 64) % 256 = 128 + c / 64 % 64 by omega, show (128 + c % 64) % 256 = 128 + c % 64 by omega]
theorem one_ev (c : Int) : Ev (fun k => serifref11_One.f k c) (enc1 c) := by
  by_cases h : sc c = true
  · have hs := (sc_iff c).1 h
    refine Ev.congr (f := fun k => serifref11_One.j0 k c) (fun k => by simp only [serifref11_One.f, rscalar, Option.bind_some]; rw [if_pos h]) ?_
    unfold enc1
    rw [fix_of c h]
    exact one_j c (by omega) (by omega)
  · refine Ev.congr (f := fun k => serifref11_One.j0 k 65533) (fun k => by simp only [serifref11_One.f, rscalar, Option.bind_some]; rw [if_neg h]) ?_
    unfold enc1 fix
    rw [if_neg h]
    exact one_j 65533 (by omega) (by omega)
theorem rencode_l (l : List Int) (hl : l.length ≤ 17592186044000) : ∀ (d i : Nat) (acc : List Int), i + d = l.length → acc.length ≤ 4 * i → Ev (fun k => serifref11_Encode.l0 k acc l (l.length : Int) (i : Int)) (acc ++ encL (l.drop i)) := by
  intro d
  induction d with
  | zero =>
    intro i acc hi ha
    rw [List.drop_eq_nil_of_le (by omega)]
    simp only [encL, List.flatMap_nil, List.append_nil]
    exact Ev.step (f := fun _ => some acc) (fun k => by simp only [serifref11_Encode.l0]; rw [if_neg (by omega)]) (Ev.now _)
  | succ d ih =>
    intro i acc hi ha
    have hlt : i < l.length := by omega
    rw [drop_at l i hlt, encL_cons, ← List.append_assoc]
    have hln := enc1_len (l.getD i 0)
    have hn := ih (i + 1) (acc ++ enc1 (l.getD i 0)) (by omega) (by rw [List.length_append]; omega)
    have e1 : wrap64 ((i : Int) + 1) = ((i + 1 : Nat) : Int) := by rw [w64 (by omega) (by omega)]; omega
    refine Ev.step (f := fun k => (serifref11_One.f k (l.getD i 0)).bind fun t => if acc.length + t.length < 140737488355328 then serifref11_Encode.l0 k (acc ++ t) l (l.length : Int) ((i + 1 : Nat) : Int) else none)
      (fun k => by simp only [serifref11_Encode.l0]; rw [if_pos (by omega), if_pos (by omega), if_pos (by omega), rd_at, e1]) ?_
    refine Ev.bind (one_ev _) ?_
    exact Ev.congr (fun k => by rw [if_pos (by omega)]) hn
theorem rencode_ev (l : List Int) (hl : l.length ≤ 17592186044000) : Ev (fun k => serifref11_Encode.f k l) (encL l) := by
  have h := rencode_l l hl l.length 0 [] (by omega) (by simp)
  simpa [serifref11_Encode.f] using h

/-! the reference's first -/
def ans (m : List Int) : Int × Int := match dec1o m with | some (c, n) => (c, (n : Int)) | none => (0, 0)
theorem j2_hit (m : List Int) (hb : Byt m) (n : Nat) (hn : n ≤ m.length) (c : Int) (hs : sc c = true) (he : encRaw c = m.take n) : Ev (fun k => serifref11_first.j2 k m (n : Int) c) (c, (n : Int)) := by
  have ef : enc1 c = m.take n := by unfold enc1; rw [fix_of c hs]; exact he
  refine Ev.step (f := fun k => (serifref11_One.f k c).bind fun t147 => (if 0 ≤ (n : Int) then (if (n : Int) ≤ (m.length : Int) then (if (strOfNums t147).toList = (strOfNums (m.take (n : Int).toNat)).toList then (some (c, (n : Int))) else (serifref11_first.l0 k m (wrap64 ((n : Int) + 1)))) else (none)) else (none)))
    (fun k => by simp only [serifref11_first.j2, rscalar, Option.bind_some]; rw [if_pos hs]) ?_
  refine Ev.bind (one_ev c) ?_
  refine Ev.congr (f := fun _ => some (c, (n : Int))) (fun k => ?_) (Ev.now _)
  rw [if_pos (by omega), if_pos (by omega), Int.toNat_natCast, ef, if_pos rfl]
theorem j2_miss (m : List Int) (hb : Byt m) (n : Nat) (h4 : n ≤ 4) (hn : n ≤ m.length) (c : Int) (hm : sc c = true → encRaw c ≠ m.take n) {r : Int × Int} (h : Ev (fun k => serifref11_first.l0 k m ((n + 1 : Nat) : Int)) r) : Ev (fun k => serifref11_first.j2 k m (n : Int) c) r := by
  have e1 : wrap64 ((n : Int) + 1) = ((n + 1 : Nat) : Int) := by rw [w64 (by omega) (by omega)]; omega
  by_cases hs : sc c = true
  · have ef : enc1 c = encRaw c := by unfold enc1; rw [fix_of c hs]
    refine Ev.step (f := fun k => (serifref11_One.f k c).bind fun t147 => (if 0 ≤ (n : Int) then (if (n : Int) ≤ (m.length : Int) then (if (strOfNums t147).toList = (strOfNums (m.take (n : Int).toNat)).toList then (some (c, (n : Int))) else (serifref11_first.l0 k m (wrap64 ((n : Int) + 1)))) else (none)) else (none)))
      (fun k => by simp only [serifref11_first.j2, rscalar, Option.bind_some]; rw [if_pos hs]) ?_
    refine Ev.bind (one_ev c) ?_
    refine Ev.congr (fun k => ?_) h
    have hne : ¬ (strOfNums (enc1 c)).toList = (strOfNums (m.take n)).toList := by
      rw [str_inj _ _ (enc1_byt c) (fun x hx => hb x (List.mem_of_mem_take hx)), ef]
      exact hm hs
    rw [if_pos (by omega), if_pos (by omega), Int.toNat_natCast, if_neg hne, e1]
  · refine Ev.step (fun k => ?_) h
    simp only [serifref11_first.j2, rscalar, Option.bind_some]
    rw [if_neg hs, e1]
theorem l0_end (m : List Int) (n : Nat) (h : 4 < n ∨ m.length < n) : Ev (fun k => serifref11_first.l0 k m (n : Int)) (0, 0) := by
  have hj : Ev (fun k => serifref11_first.j1 k m (n : Int) false) (0, 0) := Ev.step (f := fun _ => some (0, 0)) (fun k => by simp only [serifref11_first.j1]; rw [if_neg (by decide)]) (Ev.now _)
  by_cases h4 : (n : Int) ≤ 4
  · exact Ev.step (fun k => by simp only [serifref11_first.l0]; rw [if_pos h4, decide_eq_false (by omega)]) hj
  · exact Ev.step (fun k => by simp only [serifref11_first.l0]; rw [if_neg h4]) hj
def cval (m : List Int) (n : Nat) : Int :=
  if n = 1 then m.getD 0 0 else if n = 2 then (m.getD 0 0 - 192) * 64 + m.getD 1 0 - 128
  else if n = 3 then (m.getD 0 0 - 224) * 4096 + (m.getD 1 0 - 128) * 64 + m.getD 2 0 - 128
  else (m.getD 0 0 - 240) * 262144 + (m.getD 1 0 - 128) * 4096 + (m.getD 2 0 - 128) * 64 + m.getD 3 0 - 128
theorem c2v (b0 b1 : Int) (a0 : 0 ≤ b0 ∧ b0 ≤ 255) (a1 : 0 ≤ b1 ∧ b1 ≤ 255) : (wrap64 ((wrap64 ((wrap64 ((wrap64 ((wrap64 b0) - 192)) * 64)) + (wrap64 b1))) - 128)) = (b0 - 192) * 64 + b1 - 128 := by
  rw [w64 (x := b0) (by omega) (by omega), w64 (x := b1) (by omega) (by omega), w64 (x := b0 - 192) (by omega) (by omega), w64 (x := (b0 - 192) * 64) (by omega) (by omega), w64 (x := (b0 - 192) * 64 + b1) (by omega) (by omega), w64 (by omega) (by omega)]
theorem c3v (b0 b1 b2 : Int) (a0 : 0 ≤ b0 ∧ b0 ≤ 255) (a1 : 0 ≤ b1 ∧ b1 ≤ 255) (a2 : 0 ≤ b2 ∧ b2 ≤ 255) : (wrap64 ((wrap64 ((wrap64 ((wrap64 ((wrap64 ((wrap64 b0) - 224)) * 4096)) + (wrap64 ((wrap64 ((wrap64 b1) - 128)) * 64)))) + (wrap64 b2))) - 128)) = (b0 - 224) * 4096 + (b1 - 128) * 64 + b2 - 128 := by
  rw [w64 (x := b0) (by omega) (by omega), w64 (x := b1) (by omega) (by omega), w64 (x := b2) (by omega) (by omega), w64 (x := b0 - 224) (by omega) (by omega), w64 (x := b1 - 128) (by omega) (by omega), w64 (x := (b0 - 224) * 4096) (by omega) (by omega), w64 (x := (b1 - 128) * 64) (by omega) (by omega), w64 (x := (b0 - 224) * 4096 + (b1 - 128) * 64) (by omega) (by omega), w64 (x := (b0 - 224) * 4096 + (b1 - 128) * 64 + b2) (by omega) (by omega), w64 (by omega) (by omega)]
theorem c4v (b0 b1 b2 b3 : Int) (a0 : 0 ≤ b0 ∧ b0 ≤ 255) (a1 : 0 ≤ b1 ∧ b1 ≤ 255) (a2 : 0 ≤ b2 ∧ b2 ≤ 255) (a3 : 0 ≤ b3 ∧ b3 ≤ 255) : (wrap64 ((wrap64 ((wrap64 ((wrap64 ((wrap64 ((wrap64 ((wrap64 b0) - 240)) * 262144)) + (wrap64 ((wrap64 ((wrap64 b1) - 128)) * 4096)))) + (wrap64 ((wrap64 ((wrap64 b2) - 128)) * 64)))) + (wrap64 b3))) - 128)) = (b0 - 240) * 262144 + (b1 - 128) * 4096 + (b2 - 128) * 64 + b3 - 128 := by
  rw [w64 (x := b0) (by omega) (by omega), w64 (x := b1) (by omega) (by omega), w64 (x := b2) (by omega) (by omega), w64 (x := b3) (by omega) (by omega), w64 (x := b0 - 240) (by omega) (by omega), w64 (x := b1 - 128) (by omega) (by omega), w64 (x := b2 - 128) (by omega) (by omega), w64 (x := (b0 - 240) * 262144) (by omega) (by omega), w64 (x := (b1 - 128) * 4096) (by omega) (by omega), w64 (x := (b2 - 128) * 64) (by omega) (by omega), w64 (x := (b0 - 240) * 262144 + (b1 - 128) * 4096) (by omega) (by omega), w64 (x := (b0 - 240) * 262144 + (b1 - 128) * 4096 + (b2 - 128) * 64) (by omega) (by omega), w64 (x := (b0 - 240) * 262144 + (b1 - 128) * 4096 + (b2 - 128) * 64 + b3) (by omega) (by omega), w64 (by omega) (by omega)]
theorem l0_go (m : List Int) (hb : Byt m) (n : Nat) (h1 : 1 ≤ n) (h4 : n ≤ 4) (hn : n ≤ m.length) {r : Int × Int} (h : Ev (fun k => serifref11_first.j2 k m (n : Int) (cval m n)) r) : Ev (fun k => serifref11_first.l0 k m (n : Int)) r := by
  have a0 := hb.at_ 0
  have a1 := hb.at_ 1
  have a2 := hb.at_ 2
  have a3 := hb.at_ 3
  have r0 : rd m 0 = m.getD 0 0 := rfl
  have r1 : rd m 1 = m.getD 1 0 := rfl
  have r2 : rd m 2 = m.getD 2 0 := rfl
  have r3 : rd m 3 = m.getD 3 0 := rfl
  refine Ev.step (f := fun k => serifref11_first.j1 k m (n : Int) true) (fun k => by simp only [serifref11_first.l0]; rw [if_pos (by omega), decide_eq_true (by omega)]) ?_
  refine Ev.step (fun k => ?_) h
  simp only [serifref11_first.j1]
  rw [if_pos trivial, r0, r1, r2, r3]
  unfold cval
  obtain rfl | rfl | rfl | rfl : n = 1 ∨ n = 2 ∨ n = 3 ∨ n = 4 := by omega
  · rw [if_pos (by omega), if_pos (by omega), if_pos rfl, w64 (by omega) (by omega)]
  · rw [if_neg (by omega), if_pos (by omega), if_pos (by omega), if_pos (by omega), if_neg (by omega), if_pos rfl, c2v _ _ a0 a1]
  · rw [if_neg (by omega), if_neg (by omega), if_pos (by omega), if_pos (by omega), if_pos (by omega), if_pos (by omega), if_neg (by omega), if_neg (by omega), if_pos rfl, c3v _ _ _ a0 a1 a2]
  · rw [if_neg (by omega), if_neg (by omega), if_neg (by omega), if_pos (by omega), if_pos (by omega), if_pos (by omega), if_pos (by omega), if_neg (by omega), if_neg (by omega), if_neg (by omega), c4v _ _ _ _ a0 a1 a2 a3]

theorem take1 (m : List Int) (h : 1 ≤ m.length) : m.take 1 = [m.getD 0 0] := by
  match m, h with
  | a :: m, _ => rfl
theorem take2 (m : List Int) (h : 2 ≤ m.length) : m.take 2 = [m.getD 0 0, m.getD 1 0] := by
  match m, h with
  | a :: b :: m, _ => rfl
theorem take3 (m : List Int) (h : 3 ≤ m.length) : m.take 3 = [m.getD 0 0, m.getD 1 0, m.getD 2 0] := by
  match m, h with
  | a :: b :: c :: m, _ => rfl
theorem take4 (m : List Int) (h : 4 ≤ m.length) : m.take 4 = [m.getD 0 0, m.getD 1 0, m.getD 2 0, m.getD 3 0] := by
  match m, h with
  | a :: b :: c :: d :: m, _ => rfl
/-- does the head of some bytes write a code in n bytes -/
def hit (m : List Int) (n : Nat) : Prop := n ≤ m.length ∧ sc (cval m n) = true ∧ encRaw (cval m n) = m.take n
theorem hit1 (m : List Int) (hb : Byt m) (h : 1 ≤ m.length) : hit m 1 ↔ m.getD 0 0 < 128 := by
  have a0 := hb.at_ 0
  unfold hit
  rw [take1 m h, sc_iff]
  simp only [cval, if_true]
  generalize m.getD 0 0 = b0 at *
  unfold encRaw
  constructor
  · rintro ⟨_, _, he⟩
    split at he
    · assumption
    · split at he
      · simp at he
      · omega
  · intro h0
    exact ⟨h, by omega, by rw [if_pos h0]⟩
theorem hit2 (m : List Int) (hb : Byt m) (h : 2 ≤ m.length) : hit m 2 ↔ (m.getD 0 0 / 32 = 6 ∧ m.getD 1 0 / 64 = 2 ∧ 128 ≤ m.getD 0 0 % 32 * 64 + m.getD 1 0 % 64) := by
  have a0 := hb.at_ 0
  have a1 := hb.at_ 1
  unfold hit
  rw [take2 m h, sc_iff]
  have e : cval m 2 = (m.getD 0 0 - 192) * 64 + m.getD 1 0 - 128 := by simp [cval]
  rw [e]
  generalize m.getD 0 0 = b0 at *
  generalize m.getD 1 0 = b1 at *
  unfold encRaw
  constructor
  · rintro ⟨_, hs, he⟩
    split at he
    · simp at he
    · split at he
      · simp only [List.cons.injEq, and_true] at he
        omega
      · split at he <;> simp at he
  · intro h0
    refine ⟨h, by omega, ?_⟩
    rw [if_neg (by omega), if_pos (by omega)]
    simp only [List.cons.injEq, and_true]
    omega
theorem hit3 (m : List Int) (hb : Byt m) (h : 3 ≤ m.length) : hit m 3 ↔ (m.getD 0 0 / 16 = 14 ∧ m.getD 1 0 / 64 = 2 ∧ m.getD 2 0 / 64 = 2 ∧ 2048 ≤ m.getD 0 0 % 16 * 4096 + m.getD 1 0 % 64 * 64 + m.getD 2 0 % 64 ∧ sc (m.getD 0 0 % 16 * 4096 + m.getD 1 0 % 64 * 64 + m.getD 2 0 % 64) = true) := by
  have a0 := hb.at_ 0
  have a1 := hb.at_ 1
  have a2 := hb.at_ 2
  unfold hit
  rw [take3 m h, sc_iff, sc_iff]
  have e : cval m 3 = (m.getD 0 0 - 224) * 4096 + (m.getD 1 0 - 128) * 64 + m.getD 2 0 - 128 := by simp [cval]
  rw [e]
  generalize m.getD 0 0 = b0 at *
  generalize m.getD 1 0 = b1 at *
  generalize m.getD 2 0 = b2 at *
  unfold encRaw
  constructor
  · rintro ⟨_, hs, he⟩
    split at he
    · simp at he
    · split at he
      · simp at he
      · split at he
        · simp only [List.cons.injEq, and_true] at he
          omega
        · simp at he
  · intro h0
    refine ⟨h, by omega, ?_⟩
    rw [if_neg (by omega), if_neg (by omega), if_pos (by omega)]
    simp only [List.cons.injEq, and_true]
    omega
theorem hit4 (m : List Int) (hb : Byt m) (h : 4 ≤ m.length) : hit m 4 ↔ (m.getD 0 0 / 8 = 30 ∧ m.getD 1 0 / 64 = 2 ∧ m.getD 2 0 / 64 = 2 ∧ m.getD 3 0 / 64 = 2 ∧ 65536 ≤ m.getD 0 0 % 8 * 262144 + m.getD 1 0 % 64 * 4096 + m.getD 2 0 % 64 * 64 + m.getD 3 0 % 64 ∧ sc (m.getD 0 0 % 8 * 262144 + m.getD 1 0 % 64 * 4096 + m.getD 2 0 % 64 * 64 + m.getD 3 0 % 64) = true) := by
  have a0 := hb.at_ 0
  have a1 := hb.at_ 1
  have a2 := hb.at_ 2
  have a3 := hb.at_ 3
  unfold hit
  rw [take4 m h, sc_iff, sc_iff]
  have e : cval m 4 = (m.getD 0 0 - 240) * 262144 + (m.getD 1 0 - 128) * 4096 + (m.getD 2 0 - 128) * 64 + m.getD 3 0 - 128 := by simp [cval]
  rw [e]
  generalize m.getD 0 0 = b0 at *
  generalize m.getD 1 0 = b1 at *
  generalize m.getD 2 0 = b2 at *
  generalize m.getD 3 0 = b3 at *
  unfold encRaw
  constructor
  · rintro ⟨_, hs, he⟩
    split at he
    · simp at he
    · split at he
      · simp at he
      · split at he
        · simp at he
        · simp only [List.cons.injEq, and_true] at he
          omega
  · intro h0
    refine ⟨h, by omega, ?_⟩
    rw [if_neg (by omega), if_neg (by omega), if_neg (by omega)]
    simp only [List.cons.injEq, and_true]
    omega
theorem l0_ans (m : List Int) (hb : Byt m) (n : Nat) (h1 : 1 ≤ n) (h4 : n ≤ 4) {r : Int × Int} (hy : hit m n → r = (cval m n, (n : Int))) (hn : ¬ hit m n → (m.length < n → r = (0, 0)) ∧ (n ≤ m.length → Ev (fun k => serifref11_first.l0 k m ((n + 1 : Nat) : Int)) r)) : Ev (fun k => serifref11_first.l0 k m (n : Int)) r := by
  by_cases hl : n ≤ m.length
  · by_cases hh : hit m n
    · rw [hy hh]
      exact l0_go m hb n h1 h4 hl (j2_hit m hb n hl _ hh.2.1 hh.2.2)
    · exact l0_go m hb n h1 h4 hl (j2_miss m hb n h4 hl _ (fun hs he => hh ⟨hl, hs, he⟩) ((hn hh).2 hl))
  · have hh : ¬ hit m n := fun h => hl h.1
    rw [(hn hh).1 (by omega)]
    exact l0_end m n (.inr (by omega))
theorem first_ev (m : List Int) (hb : Byt m) (h0 : 0 < m.length) : Ev (fun k => serifref11_first.f k m) (ans m) := by
  have a0 := hb.at_ 0
  have a1 := hb.at_ 1
  have a2 := hb.at_ 2
  have a3 := hb.at_ 3
  show Ev (fun k => serifref11_first.l0 k m ((1 : Nat) : Int)) (ans m)
  have u : ans m = match dec1o m with | some (c, n) => (c, (n : Int)) | none => (0, 0) := rfl
  have h1 := hit1 m hb h0
  refine l0_ans m hb 1 (by omega) (by omega) (fun h => ?_) (fun hn1 => ⟨fun h => by omega, fun _ => ?_⟩)
  · have := h1.1 h
    rw [u]; unfold dec1o; simp only; rw [if_pos this]; rfl
  have g1 : ¬ m.getD 0 0 < 128 := fun h => hn1 (h1.2 h)
  refine l0_ans m hb 2 (by omega) (by omega) (fun h => ?_) (fun hn2 => ⟨fun h => ?_, fun hl2 => ?_⟩)
  · have hl := h.1
    have := (hit2 m hb h.1).1 h
    rw [u]; unfold dec1o; simp only [cont, decide_eq_true_eq]
    rw [if_neg g1, if_pos (by omega), if_pos (by omega)]
    simp only [cval]
    rw [if_neg (by omega), if_pos trivial]
    refine Prod.ext ?_ rfl
    simp only
    omega
  · rw [u]; unfold dec1o; simp only [cont, decide_eq_true_eq]
    rw [if_neg g1, if_neg (by omega), if_neg (by omega), if_neg (by omega)]
  have g2 := hit2 m hb hl2
  refine l0_ans m hb 3 (by omega) (by omega) (fun h => ?_) (fun hn3 => ⟨fun h => ?_, fun hl3 => ?_⟩)
  · have hl := h.1
    have hh := (hit3 m hb h.1).1 h
    rw [u]; unfold dec1o; simp only [cont, decide_eq_true_eq]
    rw [if_neg g1, if_neg (by omega), if_pos (by omega), if_pos ⟨by omega, hh.2.2.2.2⟩]
    simp only [cval]
    rw [if_neg (by omega), if_neg (by omega), if_pos trivial]
    refine Prod.ext ?_ rfl
    simp only
    omega
  · rw [u]; unfold dec1o; simp only [cont, decide_eq_true_eq]
    by_cases q : m.getD 0 0 / 32 = 6 ∧ 1 < m.length ∧ m.getD 1 0 / 64 = 2
    · rw [if_neg g1, if_pos q, if_neg (fun h128 => hn2 (g2.2 ⟨q.1, q.2.2, h128⟩))]
    · rw [if_neg g1, if_neg q, if_neg (by omega), if_neg (by omega)]
  have g3 := hit3 m hb hl3
  refine l0_ans m hb 4 (by omega) (by omega) (fun h => ?_) (fun hn4 => ⟨fun h => ?_, fun hl4 => ?_⟩)
  · have hl := h.1
    have hh := (hit4 m hb h.1).1 h
    rw [u]; unfold dec1o; simp only [cont, decide_eq_true_eq]
    rw [if_neg g1, if_neg (by omega), if_neg (by omega), if_pos (by omega), if_pos ⟨by omega, hh.2.2.2.2.2⟩]
    simp only [cval]
    rw [if_neg (by omega), if_neg (by omega), if_neg (by omega)]
    refine Prod.ext ?_ rfl
    simp only
    omega
  · rw [u]; unfold dec1o; simp only [cont, decide_eq_true_eq]
    by_cases q : m.getD 0 0 / 32 = 6 ∧ 1 < m.length ∧ m.getD 1 0 / 64 = 2
    · rw [if_neg g1, if_pos q, if_neg (fun h128 => hn2 (g2.2 ⟨q.1, q.2.2, h128⟩))]
    · rw [if_neg g1, if_neg q]
      by_cases q3 : m.getD 0 0 / 16 = 14 ∧ (1 < m.length ∧ m.getD 1 0 / 64 = 2) ∧ 2 < m.length ∧ m.getD 2 0 / 64 = 2
      · rw [if_pos q3, if_neg (fun hh => hn3 (g3.2 ⟨q3.1, q3.2.1.2, q3.2.2.2, hh.1, hh.2⟩))]
      · rw [if_neg q3, if_neg (by omega)]
  have g4 := hit4 m hb hl4
  have e : ans m = (0, 0) := by
    rw [u]; unfold dec1o; simp only [cont, decide_eq_true_eq]
    by_cases q : m.getD 0 0 / 32 = 6 ∧ 1 < m.length ∧ m.getD 1 0 / 64 = 2
    · rw [if_neg g1, if_pos q, if_neg (fun h128 => hn2 (g2.2 ⟨q.1, q.2.2, h128⟩))]
    · rw [if_neg g1, if_neg q]
      by_cases q3 : m.getD 0 0 / 16 = 14 ∧ (1 < m.length ∧ m.getD 1 0 / 64 = 2) ∧ 2 < m.length ∧ m.getD 2 0 / 64 = 2
      · rw [if_pos q3, if_neg (fun hh => hn3 (g3.2 ⟨q3.1, q3.2.1.2, q3.2.2.2, hh.1, hh.2⟩))]
      · rw [if_neg q3]
        by_cases q4 : m.getD 0 0 / 8 = 30 ∧ (1 < m.length ∧ m.getD 1 0 / 64 = 2) ∧ (2 < m.length ∧ m.getD 2 0 / 64 = 2) ∧ 3 < m.length ∧ m.getD 3 0 / 64 = 2
        · rw [if_pos q4, if_neg (fun hh => hn4 (g4.2 ⟨q4.1, q4.2.1.2, q4.2.2.1.2, q4.2.2.2.2, hh.1, hh.2⟩))]
        · rw [if_neg q4]
  rw [e]
  exact l0_end m 5 (.inl (by omega))

theorem rdecode_l : ∀ (n : Nat) (m : List Int), m.length ≤ n → Byt m → ∀ acc : List Int, (acc ++ dec m).length < 17592186044416 → Ev (fun k => serifref11_Decode.l0 k m acc) (acc ++ dec m) := by
  intro n
  induction n with
  | zero =>
    intro m hn hb acc ha
    obtain rfl : m = [] := List.eq_nil_of_length_eq_zero (by omega)
    rw [dec_nil, List.append_nil]
    exact Ev.step (f := fun _ => some acc) (fun k => by simp [serifref11_Decode.l0]) (Ev.now _)
  | succ n ih =>
    intro m hn hb acc ha
    by_cases h0 : 0 < m.length
    · have hk := dec1_ok m hb h0
      have hs := dec_step m hb h0
      have hlen : acc.length < 17592186044416 := by rw [List.length_append] at ha; omega
      have hnext := ih (m.drop (dec1 m).2) (by rw [List.length_drop]; omega) (hb.drop _) (acc ++ [(dec1 m).1]) (by rw [List.append_assoc, List.singleton_append, ← hs]; exact ha)
      rw [List.append_assoc, List.singleton_append, ← hs] at hnext
      refine Ev.step (f := fun k => (serifref11_first.f k m).bind fun b => if b.2 = 0 then serifref11_Decode.l0 k (m.drop 1) (acc ++ [65533]) else if 0 ≤ b.2 then (if b.2 ≤ (m.length : Int) then serifref11_Decode.l0 k (m.drop (b.2 : Int).toNat) (acc ++ [b.1]) else none) else none)
        (fun k => by
          simp only [serifref11_Decode.l0]
          rw [if_pos (by omega)]
          congr 1
          funext b
          rw [if_pos hlen, if_pos (show 1 ≤ (m.length : Int) by omega), if_pos hlen]) ?_
      refine Ev.bind (first_ev m hb h0) ?_
      unfold ans
      cases hd : dec1o m with
      | none =>
        have e1 : dec1 m = (65533, 1) := by unfold dec1; rw [hd]; rfl
        rw [e1] at hnext
        exact Ev.congr (fun k => by simp) hnext
      | some p =>
        obtain ⟨c, q⟩ := p
        have e1 : dec1 m = (c, q) := by unfold dec1; rw [hd]; rfl
        rw [e1] at hnext hk
        simp only at hk hnext
        refine Ev.congr (fun k => ?_) hnext
        simp only
        rw [if_neg (by omega), if_pos (by omega), if_pos (by omega), Int.toNat_natCast]
    · obtain rfl : m = [] := List.eq_nil_of_length_eq_zero (by omega)
      rw [dec_nil, List.append_nil]
      exact Ev.step (f := fun _ => some acc) (fun k => by simp [serifref11_Decode.l0]) (Ev.now _)
theorem rdecode_ev (m : List Int) (hb : Byt m) (h : (dec m).length < 17592186044416) : Ev (fun k => serifref11_Decode.f k m) (dec m) := rdecode_l m.length m (Nat.le_refl _) hb [] h
end Go.Proofs.Ytplnaannfnhhgaa.U
