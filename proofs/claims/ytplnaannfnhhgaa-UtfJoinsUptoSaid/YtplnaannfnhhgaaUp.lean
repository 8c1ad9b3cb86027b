/- What the printed functions of package utf come to, in plain words: decoding is 'dec', encoding is 'encL'. -/
import Derived.Test.YtplnaannfnhhgaaU
import Derived.Test.YtplnaannfnhhgaaPx
namespace Go.Proofs.Ytplnaannfnhhgaa.U
open Go.RowKit Go.Proofs.Ytplnaannfnhhgaa.P Go.Proofs.Ytplnaannfnhhgaa.F Go.Proofs.YtplnaannfnhhgaaW.PrintWords Go.Proofs.YtplnaannfnhhgaaW.PrintLast
set_option linter.unusedVariables false
set_option linter.unusedSimpArgs false

theorem w64 {x : Int} (h0 : -9223372036854775808 ≤ x) (h1 : x ≤ 9223372036854775807) : wrap64 x = x := by unfold wrap64; omega
theorem w32 {x : Int} (h0 : -2147483648 ≤ x) (h1 : x ≤ 2147483647) : wrap32 x = x := by unfold wrap32; omega
theorem rd_at (l : List Int) (i : Nat) : rd l (i : Int) = l.getD i 0 := by unfold rd; rw [Int.toNat_natCast]
theorem str_inj (a b : List Int) (ha : Byt a) (hb : Byt b) : (strOfNums a).toList = (strOfNums b).toList ↔ a = b := by
  constructor
  · intro h
    simp only [strOfNums, ByteArray.toList_mk] at h
    induction a generalizing b with
    | nil => cases b with
      | nil => rfl
      | cons y b => simp at h
    | cons x a ih => cases b with
      | nil => simp at h
      | cons y b =>
        simp only [List.map_cons, List.cons.injEq] at h
        have hx := ha x List.mem_cons_self
        have hy := hb y List.mem_cons_self
        have e : x = y := by
          have := congrArg UInt8.toNat h.1
          simp only [UInt8.toNat_ofNat'] at this
          omega
        rw [e, ih b (fun z hz => ha z (List.mem_cons_of_mem _ hz)) (fun z hz => hb z (List.mem_cons_of_mem _ hz)) h.2]
  · intro h; rw [h]

theorem decFrom_eq (l : List Int) (hb : Byt l) : ∀ (f p : Nat), decFrom (strOfNums l) f p = decN f (l.drop p) := by
  intro f
  induction f with
  | zero => intro p; rfl
  | succ f ih =>
    intro p
    obtain ⟨h1, h2⟩ := decode_dec1 l hb p
    simp only [decFrom, decN, size_nums, List.length_drop]
    by_cases hp : p < l.length
    · rw [if_pos hp, if_pos (by omega), ih, h1, h2, List.drop_drop]
    · rw [if_neg hp, if_neg (by omega)]
theorem decode_f (l : List Int) (hb : Byt l) (hl : (dec l).length < 17592186044416) : utf_Decode.f l = some (dec l) := by
  have e : decFrom (strOfNums l) l.length 0 = dec l := by rw [decFrom_eq l hb]; rfl
  unfold utf_Decode.f
  rw [e, if_pos hl]

theorem scalar_ev (c : Int) (h : (Lit.int .i64 c).wf = true) : Ev (fun k => utf_Scalar.f k c) (sc c) := by
  by_cases h0 : c ≥ 0
  · by_cases h1 : c ≤ 1114111
    · refine Ev.congr (f := fun k => (utf8_ValidRune.f k c).bind fun t => some t) (fun k => by simp only [utf_Scalar.f]; rw [if_pos h0, if_pos h1, w32 (by omega) (by omega)]) ?_
      refine Ev.bind (f := fun _ t => some t) (a := sc c) ?_ (Ev.now _)
      by_cases h2 : c < 55296
      · refine Ev.congr (f := fun k => utf8_ValidRune.j0 k c true) (fun k => by simp only [utf8_ValidRune.f]; rw [if_pos h0, decide_eq_true h2]) ?_
        have e : sc c = true := (sc_iff c).2 (.inl ⟨h0, h2⟩)
        rw [e]
        exact Ev.step (f := fun _ => some true) (fun k => by simp [utf8_ValidRune.j0]) (Ev.now _)
      · refine Ev.congr (f := fun k => utf8_ValidRune.j0 k c false) (fun k => by simp only [utf8_ValidRune.f]; rw [if_pos h0, decide_eq_false h2]) ?_
        by_cases h3 : 57343 < c
        · have e : sc c = true := (sc_iff c).2 (.inr ⟨h3, h1⟩)
          rw [e]
          exact Ev.step (f := fun _ => some true) (fun k => by simp only [utf8_ValidRune.j0]; rw [if_neg (by decide), if_pos h3, if_pos h1]) (Ev.now _)
        · have e : sc c = false := (sc_false c).2 (by omega)
          rw [e]
          exact Ev.step (f := fun _ => some false) (fun k => by simp only [utf8_ValidRune.j0]; rw [if_neg (by decide), if_neg h3]) (Ev.now _)
    · have e : sc c = false := (sc_false c).2 (by omega)
      rw [e]
      exact Ev.congr (f := fun _ => some false) (fun k => by simp only [utf_Scalar.f]; rw [if_pos h0, if_neg h1]) (Ev.now _)
  · have e : sc c = false := (sc_false c).2 (by omega)
    rw [e]
    exact Ev.congr (f := fun _ => some false) (fun k => by simp only [utf_Scalar.f]; rw [if_neg h0]) (Ev.now _)

theorem or192 (y : Int) (h0 : 0 ≤ y) (h1 : y < 32) : Go.bits .or .u8 192 y = 192 + y := u8_or192 y h0 h1
theorem or224 (y : Int) (h0 : 0 ≤ y) (h1 : y < 16) : Go.bits .or .u8 224 y = 224 + y := u8_or224 y h0 h1
theorem or240 (y : Int) (h0 : 0 ≤ y) (h1 : y < 8) : Go.bits .or .u8 240 y = 240 + y := u8_or240 y h0 h1
theorem append_ev (l : List Int) (c : Int) (h : sc c = true) (hl : l.length + 4 < 140737488355328) : Ev (fun k => utf8_AppendRune.f k l c) (l ++ encRaw c) := by
  have hs := (sc_iff c).1 h
  have hm : c % 4294967296 = c := by omega
  by_cases h0 : c < 128
  · refine Ev.congr (f := fun _ => some (l ++ encRaw c)) (fun k => ?_) (Ev.now _)
    simp only [utf8_AppendRune.f, encRaw]
    rw [hm, if_pos (by omega), if_pos (by omega), if_pos h0]
    rw [show c % 256 = c by omega]
  refine Ev.congr (f := fun k => (utf8_appendRuneNonASCII.f k l c).bind fun t => some t) (fun k => by simp only [utf8_AppendRune.f]; rw [hm, if_neg (by omega)]) ?_
  refine Ev.bind (f := fun _ t => some t) (a := l ++ encRaw c) ?_ (Ev.now _)
  by_cases h1 : c < 2048
  · refine Ev.congr (f := fun _ => some (l ++ encRaw c)) (fun k => ?_) (Ev.now _)
    simp only [utf8_appendRuneNonASCII.f, encRaw, Option.bind_some]
    rw [hm, if_pos (by omega), if_pos (by simp; omega), if_neg h0, if_pos h1, show c / 64 % 256 = c / 64 by omega, or192 _ (by omega) (by omega)]
  by_cases h2 : c < 65536
  · have h3 : Ev (fun k => utf8_appendRuneNonASCII.j0 k l c c true) (l ++ encRaw c) := by
      refine Ev.step (f := fun _ => some (l ++ encRaw c)) (fun k => ?_) (Ev.now _)
      simp only [utf8_appendRuneNonASCII.j0, encRaw, Option.bind_some]
      rw [if_pos trivial, if_pos (by simp; omega), if_neg h0, if_neg h1, if_pos h2, show c / 4096 % 256 = c / 4096 by omega, or224 _ (by omega) (by omega)]
    by_cases h4 : c < 55296
    · refine Ev.congr (fun k => ?_) h3
      simp only [utf8_appendRuneNonASCII.f]
      rw [hm, if_neg (by omega), if_pos h4, decide_eq_true h4]
    · refine Ev.congr (fun k => ?_) h3
      simp only [utf8_appendRuneNonASCII.f]
      rw [hm, if_neg (by omega), if_neg h4, if_pos (by omega), decide_eq_true (by omega)]
  · refine Ev.congr (f := fun k => utf8_appendRuneNonASCII.j0 k l c c false) (fun k => ?_) ?_
    · simp only [utf8_appendRuneNonASCII.f]
      rw [hm, if_neg (by omega), if_neg (by omega), if_pos (by omega), decide_eq_false (by omega)]
    · refine Ev.step (f := fun _ => some (l ++ encRaw c)) (fun k => ?_) (Ev.now _)
      simp only [utf8_appendRuneNonASCII.j0, encRaw, Option.bind_some]
      rw [if_neg (by decide), if_pos (by omega), if_pos (by omega), if_pos (by simp; omega), if_neg h0, if_neg h1, if_neg h2, show c / 262144 % 256 = c / 262144 by omega, or240 _ (by omega) (by omega)]

theorem wf_at {l : List Int} (hw : ∀ x ∈ l, (Lit.int .i64 x).wf = true) (i : Nat) (hi : i < l.length) : (Lit.int .i64 (l.getD i 0)).wf = true := by
  rw [List.getD_eq_getElem?_getD, List.getElem?_eq_getElem hi]
  exact hw _ (List.getElem_mem hi)
theorem drop_at (l : List Int) (i : Nat) (hi : i < l.length) : l.drop i = l.getD i 0 :: l.drop (i + 1) := by
  rw [List.getD_eq_getElem?_getD, List.getElem?_eq_getElem hi, List.drop_eq_getElem_cons hi]
  rfl
theorem encode_l (l : List Int) (hw : ∀ x ∈ l, (Lit.int .i64 x).wf = true) (hl : l.length ≤ 17592186044000) : ∀ (d i : Nat) (acc : List Int), i + d = l.length → acc.length ≤ 4 * i → Ev (fun k => utf_Encode.l0 k acc l (l.length : Int) (i : Int)) (acc ++ encL (l.drop i)) := by
  intro d
  induction d with
  | zero =>
    intro i acc hi ha
    rw [List.drop_eq_nil_of_le (by omega)]
    simp only [encL, List.flatMap_nil, List.append_nil]
    exact Ev.step (f := fun _ => some acc) (fun k => by simp only [utf_Encode.l0]; rw [if_neg (by omega)]) (Ev.now _)
  | succ d ih =>
    intro i acc hi ha
    have hlt : i < l.length := by omega
    rw [drop_at l i hlt, encL_cons, ← List.append_assoc]
    have hln := enc1_len (l.getD i 0)
    have hn := ih (i + 1) (acc ++ enc1 (l.getD i 0)) (by omega) (by rw [List.length_append]; omega)
    have e1 : wrap64 ((i : Int) + 1) = ((i + 1 : Nat) : Int) := by rw [w64 (by omega) (by omega)]; omega
    refine Ev.step (f := fun k => (utf_Scalar.f k (l.getD i 0)).bind fun t => if t = true then ((utf8_AppendRune.f k acc (wrap32 (l.getD i 0))).bind fun t225 => utf_Encode.l0 k t225 l (l.length : Int) ((i + 1 : Nat) : Int)) else ((utf8_AppendRune.f k acc 65533).bind fun t225 => utf_Encode.l0 k t225 l (l.length : Int) ((i + 1 : Nat) : Int)))
      (fun k => by simp only [utf_Encode.l0]; rw [if_pos (by omega), if_pos (by omega), if_pos (by omega), rd_at, e1]) ?_
    refine Ev.bind (scalar_ev _ (wf_at hw i hlt)) ?_
    by_cases hs : sc (l.getD i 0) = true
    · have hr := (sc_iff _).1 hs
      have ef : enc1 (l.getD i 0) = encRaw (l.getD i 0) := by unfold enc1; rw [fix_of _ hs]
      rw [hs]
      refine Ev.congr (f := fun k => (utf8_AppendRune.f k acc (l.getD i 0)).bind fun t225 => utf_Encode.l0 k t225 l (l.length : Int) ((i + 1 : Nat) : Int)) (fun k => by rw [if_pos rfl, w32 (by omega) (by omega)]) ?_
      refine Ev.bind (append_ev acc _ hs (by omega)) ?_
      rw [← ef]
      exact hn
    · have hs' : sc (l.getD i 0) = false := by simpa using hs
      have ef : enc1 (l.getD i 0) = encRaw 65533 := by unfold enc1 fix; rw [if_neg hs]
      rw [hs']
      refine Ev.congr (f := fun k => (utf8_AppendRune.f k acc 65533).bind fun t225 => utf_Encode.l0 k t225 l (l.length : Int) ((i + 1 : Nat) : Int)) (fun k => by rw [if_neg (by decide)]) ?_
      refine Ev.bind (append_ev acc _ (by decide) (by omega)) ?_
      rw [← ef]
      exact hn
theorem encode_ev (l : List Int) (hw : ∀ x ∈ l, (Lit.int .i64 x).wf = true) (hl : l.length ≤ 17592186044000) : Ev (fun k => utf_Encode.f k l) (encL l) := by
  have h := encode_l l hw hl l.length 0 [] (by omega) (by simp)
  simpa [utf_Encode.f] using h
end Go.Proofs.Ytplnaannfnhhgaa.U
