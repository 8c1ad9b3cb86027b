/- The four laws of UTF-8, plain: what the printed functions come to makes each law true. -/
import Derived.Test.YtplnaannfnhhgaaUr
namespace Go.Proofs.Ytplnaannfnhhgaa.U
open Go.RowKit Go.Proofs.Ytplnaannfnhhgaa.P Go.Proofs.Ytplnaannfnhhgaa.F Go.Proofs.YtplnaannfnhhgaaW.PrintWords Go.Proofs.YtplnaannfnhhgaaW.PrintLast
set_option linter.unusedVariables false
set_option linter.unusedSimpArgs false

theorem byt_of {l : List Int} (hw : ∀ x ∈ l, (Lit.int .u8 x).wf = true) : Byt l := fun x hx => by
  have := hw x hx
  simpa [Lit.wf, IntKind.min, IntKind.max, IntKind.signed, IntKind.bits] using this
theorem byt_b {l : List Int} (h : l.all (fun x => decide (0 ≤ x ∧ x ≤ 255)) = true) : Byt l := fun x hx => by
  have := List.all_eq_true.1 h x hx
  simpa using this
theorem alive_ev : Ev (fun k => seriflaw11_utfAlive.f k) true := by
  have d1 : dec [97, 195, 169] = [97, 233] := by decide
  have d2 : dec [195, 97] = [65533, 97] := by decide
  have f1 := decode_f [97, 195, 169] (byt_b (by decide)) (by rw [d1]; decide)
  have f2 := decode_f [195, 97] (byt_b (by decide)) (by rw [d2]; decide)
  rw [d1] at f1
  rw [d2] at f2
  refine Ev.congr (f := fun k => (serifref02_SameInts.f k [97, 233] [97, 233]).bind fun t => if t = true then ((serifref02_SameInts.f k [65533, 97] [65533, 97]).bind fun t => some t) else some false)
    (fun k => by simp only [seriflaw11_utfAlive.f, f1, f2, Option.bind_some]) ?_
  refine Ev.bind (same_ev _ (by simp)) ?_
  refine Ev.congr (f := fun k => (serifref02_SameInts.f k [65533, 97] [65533, 97]).bind fun t => some t) (fun k => by rw [if_pos rfl]) ?_
  exact Ev.bind (f := fun _ t => some t) (same_ev _ (by simp)) (Ev.now _)

theorem decodes (l : List Int) (hb : Byt l) (hl : l.length ≤ 1048576) : Ev (fun k => seriflaw11_UtfDecodes.f k l) true := by
  have hd := dec_facts l.length l (Nat.le_refl _) hb
  have f1 := decode_f l hb (by omega)
  refine Ev.bind alive_ev ?_
  refine Ev.congr (f := fun k => (serifref11_Decode.f k l).bind fun t => (serifref02_SameInts.f k (dec l) t).bind fun t185 => if t185 = true then some ((strOfNums l).toList == (strOfNums l).toList) else some false)
    (fun k => by simp only [if_true, Option.bind_some, List.nil_append, List.length_nil, Nat.zero_add, f1]; rw [if_pos (by omega)]) ?_
  refine Ev.bind (rdecode_ev l hb (by omega)) ?_
  refine Ev.bind (same_ev _ (by omega)) ?_
  exact Ev.congr (f := fun _ => some true) (fun k => by simp) (Ev.now _)

theorem sc_wf {c : Int} (h : sc c = true) : (Lit.int .i64 c).wf = true := by
  have := (sc_iff c).1 h
  simp [Lit.wf, IntKind.min, IntKind.max, IntKind.signed, IntKind.bits]
  omega

theorem total_l (l m : List Int) (hb : Byt l) (hl : l.length ≤ 1048576) (hm : m = dec l) : ∀ (d i : Nat), i + d = m.length → Ev (fun k => seriflaw11_UtfTotal.l0 k l m m (m.length : Int) (i : Int)) true := by
  have hd := dec_facts l.length l (Nat.le_refl _) hb
  rw [← hm] at hd
  have he : (encL m).length ≤ 4 * m.length := (encL_len m).2
  have hda : dec (encL m) = m := by rw [hm]; exact dec_again l hb
  intro d
  induction d with
  | zero =>
    intro i hi
    refine Ev.step (f := fun k => (utf_Encode.f k m).bind fun t => (utf_Decode.f t).bind fun t2 => (serifref02_SameInts.f k t2 m).bind fun t3 => some t3)
      (fun k => by simp only [seriflaw11_UtfTotal.l0]; rw [if_neg (by omega), if_pos (by omega), w64 (by omega) (by omega), if_pos (by omega)]) ?_
    refine Ev.bind (encode_ev m (fun x hx => sc_wf (hd.1 x hx)) (by omega)) ?_
    have f1 := decode_f (encL m) (encL_byt m) (by rw [hda]; omega)
    rw [hda] at f1
    refine Ev.congr (f := fun k => (serifref02_SameInts.f k m m).bind fun t3 => some t3) (fun k => by simp only [f1, Option.bind_some]) ?_
    exact Ev.bind (f := fun _ t => some t) (same_ev _ (by omega)) (Ev.now _)
  | succ d ih =>
    intro i hi
    have e1 : wrap64 ((i : Int) + 1) = ((i + 1 : Nat) : Int) := by rw [w64 (by omega) (by omega)]; omega
    have hs : sc (m.getD i 0) = true := by
      rw [List.getD_eq_getElem?_getD, List.getElem?_eq_getElem (by omega)]
      exact hd.1 _ (List.getElem_mem _)
    refine Ev.step (f := fun k => (utf_Scalar.f k (m.getD i 0)).bind fun t => if t = true then seriflaw11_UtfTotal.l0 k l m m (m.length : Int) ((i + 1 : Nat) : Int) else some false)
      (fun k => by simp only [seriflaw11_UtfTotal.l0]; rw [if_pos (by omega), if_pos (by omega), if_pos (by omega), rd_at, e1]) ?_
    refine Ev.bind (scalar_ev _ (sc_wf hs)) ?_
    exact Ev.congr (fun k => by rw [if_pos hs]) (ih (i + 1) (by omega))
theorem total (l : List Int) (hb : Byt l) (hl : l.length ≤ 1048576) : Ev (fun k => seriflaw11_UtfTotal.f k l) true := by
  have hd := dec_facts l.length l (Nat.le_refl _) hb
  have f1 := decode_f l hb (by omega)
  refine Ev.bind alive_ev ?_
  refine Ev.congr (f := fun k => seriflaw11_UtfTotal.l0 k l (dec l) (dec l) ((dec l).length : Int) ((0 : Nat) : Int))
    (fun k => by simp only [if_true, Option.bind_some, List.nil_append, List.length_nil, Nat.zero_add, f1]; rw [if_pos (by omega)]; rfl) ?_
  exact total_l l (dec l) hb hl rfl (dec l).length 0 (by omega)

theorem joins (l m : List Int) (hw : ∀ x ∈ l, (Lit.int .i64 x).wf = true) (hb : Byt m) (hl : l.length + m.length ≤ 1048576) : Ev (fun k => seriflaw11_UtfJoins.f k l m) true := by
  have hd := dec_facts m.length m (Nat.le_refl _) hb
  have hel := encL_len l
  have heb := encL_byt l
  have d1 : dec (encL l) = l.map fix := by
    have h := dec_encL l [] (fun x hx => by cases hx)
    rwa [List.append_nil, dec_nil, List.append_nil] at h
  have d2 := dec_encL l m hb
  have f1 := decode_f (encL l) heb (by rw [d1, List.length_map]; omega)
  have f2 := decode_f m hb (by omega)
  have f3 := decode_f (encL l ++ m) (heb.append hb) (by rw [d2, List.length_append, List.length_map]; omega)
  rw [d1] at f1
  rw [d2] at f3
  refine Ev.bind alive_ev ?_
  refine Ev.congr (f := fun k => (utf_Encode.f k l).bind fun t289 => (if t289.length + m.length < 140737488355328 then ((utf_Decode.f t289).bind fun t301 => ((utf_Decode.f m).bind fun t310 => (if t301.length + t310.length < 17592186044416 then ((utf_Decode.f (t289 ++ m)).bind fun t316 => ((serifref02_SameInts.f k t316 (t301 ++ t310)).bind fun t319 => (some t319))) else (none)))) else (none)))
    (fun k => by
      simp only [if_true, Option.bind_some, List.nil_append, List.length_nil, Nat.zero_add]
      rw [if_pos (show l.length < 17592186044416 by omega)]
      congr 1
      funext t
      by_cases ht : t.length + m.length < 140737488355328
      · rw [if_pos (show t.length < 140737488355328 by omega), if_pos ht, if_pos ht]
        congr 1
        funext t2
        rw [if_pos (show m.length < 140737488355328 by omega)]
      · rw [if_neg ht]
        split <;> rfl) ?_
  refine Ev.bind (encode_ev l hw (by omega)) ?_
  refine Ev.congr (f := fun k => (serifref02_SameInts.f k (l.map fix ++ dec m) (l.map fix ++ dec m)).bind fun t => some t) (fun k => ?_) ?_
  · rw [if_pos (by omega)]
    simp only [f1, f2, f3, Option.bind_some]
    rw [if_pos (by rw [List.length_map]; omega)]
  · exact Ev.bind (f := fun _ t => some t) (same_ev _ (by rw [List.length_append, List.length_map]; omega)) (Ev.now _)

theorem encodes_l (l t : List Int) (hw : ∀ x ∈ l, (Lit.int .i64 x).wf = true) (hl : l.length ≤ 17592186044000) (ht : t = l.map fix) : ∀ (d i : Nat), i + d = l.length → Ev (fun k => seriflaw11_UtfEncodes.l0 k t l (l.length : Int) (i : Int)) true := by
  have htl : t.length = l.length := by rw [ht, List.length_map]
  intro d
  induction d with
  | zero =>
    intro i hi
    exact Ev.step (f := fun _ => some true) (fun k => by simp only [seriflaw11_UtfEncodes.l0]; rw [if_neg (by omega)]) (Ev.now _)
  | succ d ih =>
    intro i hi
    have e1 : wrap64 ((i : Int) + 1) = ((i + 1 : Nat) : Int) := by rw [w64 (by omega) (by omega)]; omega
    have hti : t.getD i 0 = fix (l.getD i 0) := by
      rw [ht, List.getD_eq_getElem?_getD, List.getD_eq_getElem?_getD, List.getElem?_map, List.getElem?_eq_getElem (by omega)]
      rfl
    refine Ev.step (f := fun k => (utf_Scalar.f k (l.getD i 0)).bind fun t259 => ((serifref11_Scalar.f (l.getD i 0)).bind fun t260 => (if (t259 != t260) = true then (some false) else (if t259 = true then (if (i : Int) < (t.length : Int) then (if (t.getD i 0) = (l.getD i 0) then (seriflaw11_UtfEncodes.l0 k t l (l.length : Int) ((i + 1 : Nat) : Int)) else (some false)) else (none)) else (if (i : Int) < (t.length : Int) then (if (t.getD i 0) = 65533 then (seriflaw11_UtfEncodes.l0 k t l (l.length : Int) ((i + 1 : Nat) : Int)) else (some false)) else (none))))))
      (fun k => by simp only [seriflaw11_UtfEncodes.l0]; rw [if_pos (by omega), if_pos (by omega), if_pos (by omega), rd_at, rd_at, e1]) ?_
    refine Ev.bind (scalar_ev _ (wf_at hw i (by omega))) ?_
    refine Ev.congr (fun k => ?_) (ih (i + 1) (by omega))
    simp only [rscalar, Option.bind_some]
    rw [if_neg (by simp), hti]
    by_cases hs : sc (l.getD i 0) = true
    · rw [if_pos hs, if_pos (by omega), if_pos (fix_of _ hs)]
    · rw [if_neg hs, if_pos (by omega), if_pos (by unfold fix; rw [if_neg hs])]
theorem encodes (l : List Int) (hw : ∀ x ∈ l, (Lit.int .i64 x).wf = true) (hl : l.length * 8 ≤ 140737488351232) : Ev (fun k => seriflaw11_UtfEncodes.f k l) true := by
  have hel := encL_len l
  have heb := encL_byt l
  have d1 : dec (encL l) = l.map fix := by
    have h := dec_encL l [] (fun x hx => by cases hx)
    rwa [List.append_nil, dec_nil, List.append_nil] at h
  have f1 := decode_f (encL l) heb (by rw [d1, List.length_map]; omega)
  rw [d1] at f1
  refine Ev.bind alive_ev ?_
  refine Ev.congr (f := fun k => (utf_Encode.f k l).bind fun t248 => ((serifref11_Encode.f k l).bind fun t251 => (if (strOfNums t248).toList = (strOfNums t251).toList then ((serifref02_SameInts.f k l l).bind fun t254 => (seriflaw11_UtfEncodes.j0 k l t248 (!t254))) else (seriflaw11_UtfEncodes.j0 k l t248 true))))
    (fun k => by simp only [if_true, Option.bind_some, List.nil_append, List.length_nil, Nat.zero_add]; rw [if_pos (by omega)]) ?_
  refine Ev.bind (encode_ev l hw (by omega)) ?_
  refine Ev.bind (rencode_ev l (by omega)) ?_
  refine Ev.congr (f := fun k => (serifref02_SameInts.f k l l).bind fun t254 => (seriflaw11_UtfEncodes.j0 k l (encL l) (!t254))) (fun k => by rw [if_pos rfl]) ?_
  refine Ev.bind (same_ev l (by omega)) ?_
  refine Ev.step (f := fun k => seriflaw11_UtfEncodes.l0 k (l.map fix) l (l.length : Int) ((0 : Nat) : Int)) (fun k => ?_) (encodes_l l _ hw (by omega) rfl l.length 0 (by omega))
  simp only [seriflaw11_UtfEncodes.j0, f1, Option.bind_some, Bool.not_true]
  rw [if_neg (by decide), if_pos (by rw [List.length_map])]
  rfl
end Go.Proofs.Ytplnaannfnhhgaa.U
