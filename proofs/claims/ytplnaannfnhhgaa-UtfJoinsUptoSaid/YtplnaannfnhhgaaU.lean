/- Plain laws of UTF-8 over lists of numbers: what is decoded, what is encoded, that the two agree; and that the model's own decoder is this one. -/
import Derived.Laws.BytesArg
import Derived.Laws.RangeAny
namespace Go.Proofs.Ytplnaannfnhhgaa.U
set_option linter.unusedVariables false
set_option linter.unusedSimpArgs false

def Byt (l : List Int) : Prop := ∀ x ∈ l, 0 ≤ x ∧ x ≤ 255
theorem Byt.drop {l : List Int} (h : Byt l) (n : Nat) : Byt (l.drop n) := fun x hx => h x (List.mem_of_mem_drop hx)
theorem Byt.append {l m : List Int} (h : Byt l) (k : Byt m) : Byt (l ++ m) := fun x hx => (List.mem_append.1 hx).elim (h x) (k x)
theorem Byt.at_ {l : List Int} (h : Byt l) (i : Nat) : 0 ≤ l.getD i 0 ∧ l.getD i 0 ≤ 255 := by
  rw [List.getD_eq_getElem?_getD]
  rcases Nat.lt_or_ge i l.length with hi | hi
  · rw [List.getElem?_eq_getElem hi]
    exact h _ (List.getElem_mem hi)
  · rw [List.getElem?_eq_none hi]
    simp

/-- Is it a scalar? -/
def sc (c : Int) : Bool := decide ((0 ≤ c ∧ c < 55296) ∨ (57343 < c ∧ c ≤ 1114111))
def fix (c : Int) : Int := if sc c then c else 65533
def encRaw (c : Int) : List Int :=
  if c < 128 then [c] else if c < 2048 then [192 + c / 64, 128 + c % 64] else if c < 65536 then [224 + c / 4096, 128 + c / 64 % 64, 128 + c % 64]
  else [240 + c / 262144, 128 + c / 4096 % 64, 128 + c / 64 % 64, 128 + c % 64]
def enc1 (c : Int) : List Int := encRaw (fix c)
def encL (l : List Int) : List Int := l.flatMap enc1
def cont (m : List Int) (k : Nat) : Bool := decide (k < m.length ∧ m.getD k 0 / 64 = 2)
/-- The code at the head of some bytes, and how many bytes it takes; none: they write none. -/
def dec1o (m : List Int) : Option (Int × Nat) :=
  let b0 := m.getD 0 0
  if b0 < 128 then some (b0, 1)
  else if b0 / 32 = 6 ∧ cont m 1 = true then
    if 128 ≤ (b0 % 32) * 64 + m.getD 1 0 % 64 then some ((b0 % 32) * 64 + m.getD 1 0 % 64, 2) else none
  else if b0 / 16 = 14 ∧ cont m 1 = true ∧ cont m 2 = true then
    if 2048 ≤ (b0 % 16) * 4096 + (m.getD 1 0 % 64) * 64 + m.getD 2 0 % 64 ∧ sc ((b0 % 16) * 4096 + (m.getD 1 0 % 64) * 64 + m.getD 2 0 % 64) = true then
      some ((b0 % 16) * 4096 + (m.getD 1 0 % 64) * 64 + m.getD 2 0 % 64, 3) else none
  else if b0 / 8 = 30 ∧ cont m 1 = true ∧ cont m 2 = true ∧ cont m 3 = true then
    if 65536 ≤ (b0 % 8) * 262144 + (m.getD 1 0 % 64) * 4096 + (m.getD 2 0 % 64) * 64 + m.getD 3 0 % 64 ∧ sc ((b0 % 8) * 262144 + (m.getD 1 0 % 64) * 4096 + (m.getD 2 0 % 64) * 64 + m.getD 3 0 % 64) = true then
      some ((b0 % 8) * 262144 + (m.getD 1 0 % 64) * 4096 + (m.getD 2 0 % 64) * 64 + m.getD 3 0 % 64, 4) else none
  else none
def dec1 (m : List Int) : Int × Nat := (dec1o m).getD (65533, 1)
def decN : Nat → List Int → List Int
  | 0, _ => []
  | f + 1, m => if 0 < m.length then (dec1 m).1 :: decN f (m.drop (dec1 m).2) else []
def dec (m : List Int) : List Int := decN m.length m

theorem fix_sc (c : Int) : sc (fix c) = true := by
  unfold fix
  split
  · assumption
  · decide
theorem fix_of (c : Int) (h : sc c = true) : fix c = c := by unfold fix; rw [if_pos h]
theorem sc_iff (c : Int) : sc c = true ↔ (0 ≤ c ∧ c < 55296) ∨ (57343 < c ∧ c ≤ 1114111) := by simp [sc]
theorem sc_false (c : Int) : sc c = false ↔ ¬ ((0 ≤ c ∧ c < 55296) ∨ (57343 < c ∧ c ≤ 1114111)) := by simp [sc]

/-- what one decoding gives: a scalar, one to four bytes, no more than there are -/
theorem dec1o_ok (m : List Int) (hb : Byt m) (h0 : 0 < m.length) (c : Int) (n : Nat) (h : dec1o m = some (c, n)) : sc c = true ∧ 1 ≤ n ∧ n ≤ 4 ∧ n ≤ m.length := by
  have a0 := hb.at_ 0
  have a1 := hb.at_ 1
  have a2 := hb.at_ 2
  have a3 := hb.at_ 3
  unfold dec1o at h
  simp only [cont, decide_eq_true_eq] at h
  rw [sc_iff] at *
  split at h
  · simp only [Option.some.injEq, Prod.mk.injEq] at h
    omega
  · split at h
    · split at h
      · simp only [Option.some.injEq, Prod.mk.injEq] at h
        omega
      · cases h
    · split at h
      · split at h
        · rename_i hh
          rw [sc_iff] at hh
          simp only [Option.some.injEq, Prod.mk.injEq] at h
          omega
        · cases h
      · split at h
        · split at h
          · rename_i hh
            rw [sc_iff] at hh
            simp only [Option.some.injEq, Prod.mk.injEq] at h
            omega
          · cases h
        · cases h
theorem dec1_ok (m : List Int) (hb : Byt m) (h0 : 0 < m.length) : sc (dec1 m).1 = true ∧ 1 ≤ (dec1 m).2 ∧ (dec1 m).2 ≤ 4 ∧ (dec1 m).2 ≤ m.length := by
  unfold dec1
  cases h : dec1o m with
  | none => exact ⟨by decide, by simp, by simp, by simp; omega⟩
  | some p => exact dec1o_ok m hb h0 p.1 p.2 h

theorem decN_enough : ∀ (f g : Nat) (m : List Int), Byt m → m.length ≤ f → m.length ≤ g → decN f m = decN g m := by
  intro f
  induction f with
  | zero =>
    intro g m hb hf hg
    cases g with
    | zero => rfl
    | succ g => simp only [decN]; rw [if_neg (by omega)]
  | succ f ih =>
    intro g m hb hf hg
    cases g with
    | zero => simp only [decN]; rw [if_neg (by omega)]
    | succ g =>
      simp only [decN]
      by_cases h0 : 0 < m.length
      · rw [if_pos h0, if_pos h0]
        have hk := dec1_ok m hb h0
        rw [ih g (m.drop (dec1 m).2) (hb.drop _) (by rw [List.length_drop]; omega) (by rw [List.length_drop]; omega)]
      · rw [if_neg h0, if_neg h0]
theorem dec_nil : dec [] = [] := rfl
theorem dec_step (m : List Int) (hb : Byt m) (h0 : 0 < m.length) : dec m = (dec1 m).1 :: dec (m.drop (dec1 m).2) := by
  have hk := dec1_ok m hb h0
  obtain ⟨f, hf⟩ : ∃ f, m.length = f + 1 := ⟨m.length - 1, by omega⟩
  unfold dec
  rw [hf]
  simp only [decN]
  rw [if_pos h0, decN_enough f _ (m.drop (dec1 m).2) (hb.drop _) (by rw [List.length_drop]; omega) (Nat.le_refl _)]
theorem dec_facts : ∀ (n : Nat) (m : List Int), m.length ≤ n → Byt m → (∀ c ∈ dec m, sc c = true) ∧ (dec m).length ≤ m.length ∧ m.length ≤ 4 * (dec m).length := by
  intro n
  induction n with
  | zero =>
    intro m hn hb
    obtain rfl : m = [] := List.eq_nil_of_length_eq_zero (by omega)
    simp [dec_nil]
  | succ n ih =>
    intro m hn hb
    by_cases h0 : 0 < m.length
    · have hk := dec1_ok m hb h0
      rw [dec_step m hb h0]
      obtain ⟨h1, h2, h3⟩ := ih (m.drop (dec1 m).2) (by rw [List.length_drop]; omega) (hb.drop _)
      rw [List.length_drop] at h2 h3
      refine ⟨fun c hc => ?_, by simp only [List.length_cons]; omega, by simp only [List.length_cons]; omega⟩
      rcases List.mem_cons.1 hc with rfl | hc
      · exact hk.1
      · exact h1 c hc
    · obtain rfl : m = [] := List.eq_nil_of_length_eq_zero (by omega)
      simp [dec_nil]

theorem encRaw_byt (c : Int) (h0 : 0 ≤ c) (h1 : c ≤ 1114111) : Byt (encRaw c) ∧ 1 ≤ (encRaw c).length ∧ (encRaw c).length ≤ 4 := by
  unfold encRaw Byt
  repeat' split
  all_goals (refine ⟨?_, by simp, by simp⟩; intro x hx; simp only [List.mem_cons, List.not_mem_nil, or_false] at hx; omega)
theorem fix_range (c : Int) : 0 ≤ fix c ∧ fix c ≤ 1114111 := by
  have := (sc_iff _).1 (fix_sc c)
  omega
theorem enc1_byt (c : Int) : Byt (enc1 c) := (encRaw_byt _ (fix_range c).1 (fix_range c).2).1
theorem enc1_len (c : Int) : 1 ≤ (enc1 c).length ∧ (enc1 c).length ≤ 4 := (encRaw_byt _ (fix_range c).1 (fix_range c).2).2
theorem encL_cons (c : Int) (l : List Int) : encL (c :: l) = enc1 c ++ encL l := rfl
theorem encL_byt (l : List Int) : Byt (encL l) := by
  induction l with
  | nil => intro x hx; cases hx
  | cons c l ih => exact (enc1_byt c).append ih
theorem encL_len (l : List Int) : l.length ≤ (encL l).length ∧ (encL l).length ≤ 4 * l.length := by
  induction l with
  | nil => simp [encL]
  | cons c l ih =>
    have := enc1_len c
    rw [encL_cons, List.length_append, List.length_cons]
    omega
/-- a scalar's bytes are read back -/
theorem dec1_encRaw (c : Int) (hs : sc c = true) (m : List Int) : dec1o (encRaw c ++ m) = some (c, (encRaw c).length) := by
  have hs' := (sc_iff c).1 hs
  unfold encRaw
  split
  · rename_i h
    simp only [dec1o, List.cons_append, List.nil_append, List.getD_cons_zero]
    rw [if_pos h]
    rfl
  · split
    · rename_i h1 h2
      simp only [dec1o, cont, List.cons_append, List.nil_append, List.getD_cons_zero, List.getD_cons_succ, List.length_cons, decide_eq_true_eq]
      rw [if_neg (by omega), if_pos ⟨by omega, by omega, by omega⟩, if_pos (by omega)]
      simp only [Option.some.injEq, Prod.mk.injEq]
      exact ⟨by omega, rfl⟩
    · split
      · rename_i h1 h2 h3
        simp only [dec1o, cont, List.cons_append, List.nil_append, List.getD_cons_zero, List.getD_cons_succ, List.length_cons, decide_eq_true_eq]
        have he : (224 + c / 4096) % 16 * 4096 + (128 + c / 64 % 64) % 64 * 64 + (128 + c % 64) % 64 = c := by omega
        rw [he, if_neg (by omega), if_neg (by omega), if_pos ⟨by omega, ⟨by omega, by omega⟩, by omega, by omega⟩, if_pos ⟨by omega, hs⟩]
        rfl
      · rename_i h1 h2 h3
        simp only [dec1o, cont, List.cons_append, List.nil_append, List.getD_cons_zero, List.getD_cons_succ, List.length_cons, decide_eq_true_eq]
        have he : (240 + c / 262144) % 8 * 262144 + (128 + c / 4096 % 64) % 64 * 4096 + (128 + c / 64 % 64) % 64 * 64 + (128 + c % 64) % 64 = c := by omega
        rw [he, if_neg (by omega), if_neg (by omega), if_neg (by omega), if_pos ⟨by omega, ⟨by omega, by omega⟩, ⟨by omega, by omega⟩, by omega, by omega⟩, if_pos ⟨by omega, hs⟩]
        rfl
theorem dec_enc1 (c : Int) (m : List Int) (hb : Byt m) : dec (enc1 c ++ m) = fix c :: dec m := by
  have hl := enc1_len c
  have h1 : dec1 (enc1 c ++ m) = (fix c, (enc1 c).length) := by
    unfold dec1 enc1
    rw [dec1_encRaw (fix c) (fix_sc c) m]
    rfl
  rw [dec_step _ ((enc1_byt c).append hb) (by rw [List.length_append]; omega), h1]
  simp
theorem dec_encL (l m : List Int) (hb : Byt m) : dec (encL l ++ m) = l.map fix ++ dec m := by
  induction l with
  | nil => rfl
  | cons c l ih => rw [encL_cons, List.append_assoc, dec_enc1 c _ ((encL_byt l).append hb), ih]; rfl
theorem map_fix (l : List Int) (h : ∀ c ∈ l, sc c = true) : l.map fix = l := by
  induction l with
  | nil => rfl
  | cons c l ih =>
    rw [List.map_cons, fix_of c (h c List.mem_cons_self), ih (fun x hx => h x (List.mem_cons_of_mem _ hx))]
theorem dec_again (m : List Int) (hb : Byt m) : dec (encL (dec m)) = dec m := by
  have h := dec_encL (dec m) [] (fun x hx => by cases hx)
  rw [List.append_nil, dec_nil, List.append_nil] at h
  rw [h, map_fix _ (dec_facts m.length m (Nat.le_refl _) hb).1]

/-! the model's decoder -/
theorem get_nums (l : List Int) (hb : Byt l) (i : Nat) : (((strOfNums l).get! i).toNat : Int) = l.getD i 0 := by
  rw [List.getD_eq_getElem?_getD]
  rcases Nat.lt_or_ge i l.length with hi | hi
  · rw [List.getElem?_eq_getElem hi]
    have hb' := hb _ (List.getElem_mem hi)
    have hh : (strOfNums l).get! i = UInt8.ofNat (l[i]).toNat := by
      simp [strOfNums, ByteArray.get!, hi]
    rw [hh]
    simp only [UInt8.toNat_ofNat', Option.getD_some]
    omega
  · rw [List.getElem?_eq_none hi]
    have hh : (strOfNums l).get! i = 0 := by
      simp [strOfNums, ByteArray.get!, hi]
      rfl
    rw [hh]
    rfl
theorem size_nums (l : List Int) : (strOfNums l).size = l.length := by
  show (strOfNums l).data.size = _
  simp [strOfNums]
theorem valid_sc (n : Nat) : Utf8.valid (n : Int) = sc (n : Int) := by
  simp only [Utf8.valid, sc]
  rw [Bool.eq_iff_iff]
  simp
  omega
theorem getD_drop (l : List Int) (p k : Nat) : (l.drop p).getD k 0 = l.getD (p + k) 0 := by
  rw [List.getD_eq_getElem?_getD, List.getD_eq_getElem?_getD, List.getElem?_drop]
/-- the model's decoder, its four bytes given -/
def dform (sz p b0 b1 b2 b3 : Nat) : Nat × Nat :=
  if b0 < 0x80 then (b0, 1)
  else if b0 / 32 == 6 && (decide (p + 1 < sz) && b1 / 64 == 2) then
    if (b0 % 32) * 64 + b1 % 64 ≥ 0x80 then ((b0 % 32) * 64 + b1 % 64, 2) else (Utf8.runeError, 1)
  else if b0 / 16 == 14 && (decide (p + 1 < sz) && b1 / 64 == 2) && (decide (p + 2 < sz) && b2 / 64 == 2) then
    if decide ((b0 % 16) * 4096 + (b1 % 64) * 64 + b2 % 64 ≥ 0x800) && Utf8.valid (((b0 % 16) * 4096 + (b1 % 64) * 64 + b2 % 64 : Nat) : Int) then ((b0 % 16) * 4096 + (b1 % 64) * 64 + b2 % 64, 3) else (Utf8.runeError, 1)
  else if b0 / 8 == 30 && (decide (p + 1 < sz) && b1 / 64 == 2) && (decide (p + 2 < sz) && b2 / 64 == 2) && (decide (p + 3 < sz) && b3 / 64 == 2) then
    if decide ((b0 % 8) * 262144 + (b1 % 64) * 4096 + (b2 % 64) * 64 + b3 % 64 ≥ 0x10000) && Utf8.valid (((b0 % 8) * 262144 + (b1 % 64) * 4096 + (b2 % 64) * 64 + b3 % 64 : Nat) : Int) then ((b0 % 8) * 262144 + (b1 % 64) * 4096 + (b2 % 64) * 64 + b3 % 64, 4) else (Utf8.runeError, 1)
  else (Utf8.runeError, 1)
theorem decode_form (s : ByteArray) (p : Nat) : Utf8.decode s p = dform s.size p (s.get! (p + 0)).toNat (s.get! (p + 1)).toNat (s.get! (p + 2)).toNat (s.get! (p + 3)).toNat := rfl
theorem dform_dec1 (l : List Int) (p x0 x1 x2 x3 : Nat) (e0 : (x0 : Int) = l.getD p 0) (e1 : (x1 : Int) = l.getD (p + 1) 0) (e2 : (x2 : Int) = l.getD (p + 2) 0) (e3 : (x3 : Int) = l.getD (p + 3) 0) :
    ((dform l.length p x0 x1 x2 x3).1 : Int) = (dec1 (l.drop p)).1 ∧ (dform l.length p x0 x1 x2 x3).2 = (dec1 (l.drop p)).2 := by
  have vs := valid_sc
  unfold dec1 dec1o
  simp only [dform, cont, getD_drop, Nat.add_zero, List.length_drop, decide_eq_true_eq, Bool.and_eq_true, beq_iff_eq, Utf8.runeError]
  rw [← e0, ← e1, ← e2, ← e3]
  by_cases c1 : x0 < 128
  · rw [if_pos c1, if_pos (by omega)]
    exact ⟨rfl, rfl⟩
  rw [if_neg c1, if_neg (show ¬ ((x0 : Int) < 128) by omega)]
  by_cases c2 : x0 / 32 = 6 ∧ p + 1 < l.length ∧ x1 / 64 = 2
  · rw [if_pos c2, if_pos (show ((x0 : Int) / 32 = 6 ∧ 1 < l.length - p ∧ (x1 : Int) / 64 = 2) by omega)]
    by_cases c3 : 128 ≤ x0 % 32 * 64 + x1 % 64
    · rw [if_pos (show x0 % 32 * 64 + x1 % 64 ≥ 128 from c3), if_pos (show (128 : Int) ≤ (x0 : Int) % 32 * 64 + (x1 : Int) % 64 by omega)]
      exact ⟨by simp, rfl⟩
    · rw [if_neg (show ¬ x0 % 32 * 64 + x1 % 64 ≥ 128 from c3), if_neg (show ¬ ((128 : Int) ≤ (x0 : Int) % 32 * 64 + (x1 : Int) % 64) by omega)]
      exact ⟨rfl, rfl⟩
  rw [if_neg c2, if_neg (show ¬ ((x0 : Int) / 32 = 6 ∧ 1 < l.length - p ∧ (x1 : Int) / 64 = 2) by omega)]
  by_cases c3 : (x0 / 16 = 14 ∧ p + 1 < l.length ∧ x1 / 64 = 2) ∧ p + 2 < l.length ∧ x2 / 64 = 2
  · rw [if_pos c3, if_pos (show ((x0 : Int) / 16 = 14 ∧ (1 < l.length - p ∧ (x1 : Int) / 64 = 2) ∧ 2 < l.length - p ∧ (x2 : Int) / 64 = 2) by omega)]
    have ev : ((x0 : Int) % 16 * 4096 + (x1 : Int) % 64 * 64 + (x2 : Int) % 64) = ((x0 % 16 * 4096 + x1 % 64 * 64 + x2 % 64 : Nat) : Int) := by omega
    rw [ev]
    have hv := vs (x0 % 16 * 4096 + x1 % 64 * 64 + x2 % 64)
    by_cases c4 : x0 % 16 * 4096 + x1 % 64 * 64 + x2 % 64 ≥ 2048 ∧ Utf8.valid ((x0 % 16 * 4096 + x1 % 64 * 64 + x2 % 64 : Nat) : Int) = true
    · rw [if_pos c4, if_pos ⟨by omega, by rw [← hv]; exact c4.2⟩]
      exact ⟨rfl, rfl⟩
    · rw [if_neg c4, if_neg (fun h => c4 ⟨by omega, by rw [hv]; exact h.2⟩)]
      exact ⟨rfl, rfl⟩
  rw [if_neg c3, if_neg (show ¬ ((x0 : Int) / 16 = 14 ∧ (1 < l.length - p ∧ (x1 : Int) / 64 = 2) ∧ 2 < l.length - p ∧ (x2 : Int) / 64 = 2) by omega)]
  by_cases c5 : ((x0 / 8 = 30 ∧ p + 1 < l.length ∧ x1 / 64 = 2) ∧ p + 2 < l.length ∧ x2 / 64 = 2) ∧ p + 3 < l.length ∧ x3 / 64 = 2
  · rw [if_pos c5, if_pos (show ((x0 : Int) / 8 = 30 ∧ (1 < l.length - p ∧ (x1 : Int) / 64 = 2) ∧ (2 < l.length - p ∧ (x2 : Int) / 64 = 2) ∧ 3 < l.length - p ∧ (x3 : Int) / 64 = 2) by omega)]
    have ev : ((x0 : Int) % 8 * 262144 + (x1 : Int) % 64 * 4096 + (x2 : Int) % 64 * 64 + (x3 : Int) % 64) = ((x0 % 8 * 262144 + x1 % 64 * 4096 + x2 % 64 * 64 + x3 % 64 : Nat) : Int) := by omega
    rw [ev]
    have hv := vs (x0 % 8 * 262144 + x1 % 64 * 4096 + x2 % 64 * 64 + x3 % 64)
    by_cases c6 : x0 % 8 * 262144 + x1 % 64 * 4096 + x2 % 64 * 64 + x3 % 64 ≥ 65536 ∧ Utf8.valid ((x0 % 8 * 262144 + x1 % 64 * 4096 + x2 % 64 * 64 + x3 % 64 : Nat) : Int) = true
    · rw [if_pos c6, if_pos ⟨by omega, by rw [← hv]; exact c6.2⟩]
      exact ⟨rfl, rfl⟩
    · rw [if_neg c6, if_neg (fun h => c6 ⟨by omega, by rw [hv]; exact h.2⟩)]
      exact ⟨rfl, rfl⟩
  rw [if_neg c5, if_neg (show ¬ ((x0 : Int) / 8 = 30 ∧ (1 < l.length - p ∧ (x1 : Int) / 64 = 2) ∧ (2 < l.length - p ∧ (x2 : Int) / 64 = 2) ∧ 3 < l.length - p ∧ (x3 : Int) / 64 = 2) by omega)]
  exact ⟨rfl, rfl⟩
theorem decode_dec1 (l : List Int) (hb : Byt l) (p : Nat) : ((Utf8.decode (strOfNums l) p).1 : Int) = (dec1 (l.drop p)).1 ∧ (Utf8.decode (strOfNums l) p).2 = (dec1 (l.drop p)).2 := by
  rw [decode_form, size_nums]
  exact dform_dec1 l p _ _ _ _ (get_nums l hb _) (get_nums l hb _) (get_nums l hb _) (get_nums l hb _)
end Go.Proofs.Ytplnaannfnhhgaa.U
