/- Package cmap's laws: a table read, a map of two letters. -/
import Derived.Test.YtebmfbfmdbimdaaZC910
namespace Go.Proofs.Ytebmfbfmdbimdaa.F
open Go.RowKit Go.Proofs.YtebmfbfmdbimdaaW.PrintWords Go.Proofs.YtebmfbfmdbimdaaW.PrintLast Go.Proofs.YtebmfbfmdbimdaaW.PrintMore Go.Proofs.Ytebmfbfmdbimdaa.D Go.Proofs.Ytebmfbfmdbimdaa.rowQ
set_option linter.unusedVariables false
set_option linter.unusedSimpArgs false
set_option maxRecDepth 100000 in
set_option maxHeartbeats 4000000 in
theorem lread_ok (A0 : Option Addr) (c0 : Nat) (l : List Int) (P E k f G : Int) (n : Nat) (w : World) (hr0 : Kd.C (Kd.int .u8) w A0 l.length l) (hT : Tab l P E k f n) (hG : 1 ≤ G ∧ G ≤ 4096) :
    Calls Try.prog 26 #[.slice A0 l.length c0, .int .i64 G] w fun e w' => ∃ (m : Nat) (v : Value), e = .returned (.tuple #[.pointer (some ⟨m, 0, none⟩), .int .i64 0]) ∧ w'.ownsRow w.heap.size 95 4 v n ((grps (l.drop 12) f n).map (Value.int .i64)) ∧
      w'.heap[m]? = some (.cells #[.int .i64 f, .int .i64 G, v, .nilFunc, .slice none 0 0] 93 (0, 0)) ∧ w.heap.size ≤ m ∧ Below w.heap.size w w' := by
  have hnil : ∀ (p : Nat) (W : World), (binOp BinOp.eql 85 (.pointer (some ⟨p, 0, none⟩)) (.pointer none)).run Try.prog W = .ok (.bool false) W := fun _ _ => by kernel_rfl
  have HR0 := Aside0.mk hr0
  have LM := Aside0.mk hT.few
  have HN := Aside0.mk (fun A0 c0 W hr hc => peek_New.calls A0 c0 l W hr hc LM.out)
  have HRd := Aside0.mk (fun (W : World) (p : Nat) (A : Option Addr) (c : Nat) (hv : View W p A c l) => read_ok W p A c l P E k f G n hv hT hG)
  have LMA : Aside0 (([] : List Int).length + l.length < 140737488355328) := ⟨by simpa using LM.out⟩
  have HB := Aside0.mk (Below.refl w.heap.size w)
  clear hr0 hT hG
  go_enter Try.func26, Try.ntmps26
  go_wp2_with (first | ((with_reducible refine gate_dst (N := 7) rfl ?_); refine Kd.R_lit (Kd.int .u8) _ 5 ?hg (N := 7) ?hd (xs := ([] : List Int)) (inner := []) (ok := fun _ => True) (okp := fun _ => True) ?hr ?hp (fun _ hk => hk) trivial (Below.refl _ _) (Nat.le_refl _) (by simp) ?_; (case hd => rfl); (case hg => rfl); (case hr => first | (go_simp; done) | (go_simp; rfl)); (case hp => exact (Reps.none _ _)); intro v2 w2 ho2 hb2 hg_ hnew_; clear hg_ hnew_; have HO := Aside0.mk (Kd.R_lower ho2 (below_size HB.out)); have HBn := Aside0.mk (below_step HB.out hb2); clear HB ho2 hb2; have HB := HBn; clear HBn) | ((with_reducible refine gate_builtin (b := .append) (xs := #[.tmp 7, .tmp 8]) rfl ?_); at_builtin; refine Kd.R_append_rows (Kd.int .u8) (w0 := w) w.heap.size rfl (.tmp 7) (.tmp 8) 60 5 (.int .u8 0) 1 rfl Try.underlying60 infoU8 rfl (by decide) (by omega) v2 ([] : List Int) l _ _ _ (fun _ => True) (fun _ => False) rfl rfl HO.out (Kd.C_below HR0.out HB.out) (fun _ _ h => h) (fun _ h => h.elim) (fun _ _ => trivial) HB.out (below_size HB.out) (by have := LMA.out; omega) ?_; intro v3 w3 ho hb hg hat; obtain ⟨A3, c3, ev3⟩ := Kd.R_slice ho; subst ev3; have HO3 := Aside0.mk ho; have HBn := Aside0.mk hb; clear HB HO ho hb hg hat; have HB := HBn; clear HBn) | (go_at_call 40; (refine (HN.out A3 c3 _ (Kd.R_reads' HO3.out).2.2 (Kd.R_reads' HO3.out).2.1).mono ?_); rintro e w4 ⟨p, A, c, rfl, hp1, hp2, hblk, hrow, hbel⟩; have HV := Aside0.mk (View.mk hblk (Kd.R_reads' hrow).2.2 (Kd.R_reads' hrow).2.1); have HB2 := Aside0.mk (below_step HB.out hbel); clear hblk hrow hbel HB HO3 hp1 hp2) | (go_at_call 41; ((with_reducible refine (HRd.out _ p A c HV.out).mono ?_); rintro e w5 ⟨m, v, rfl, ho, hm, hml, hb⟩; have HO5 := Aside0.mk (own_low ho HB2.out.size); have HM5 := Aside0.mk hm; have HML := Aside0.mk (Nat.le_trans HB2.out.size hml); have HB5 := Aside0.mk (below_step HB2.out hb); clear ho hm hml hb)))
  go_ret2
  exact ⟨m, v, rfl, HO5.out, HM5.out, HML.out, HB5.out⟩
def s56 (z : List Int) : S56 := ⟨z.getD 0 0, z.getD 1 0, z.getD 2 0⟩
theorem c56_of {w : World} {A : Option Addr} {l : List (List Int)} (h : RowQ 3 w A l) (hl : l.length ≤ 9223372036854775807) : Kd.C k56 w A l.length (l.map s56) := by
  refine ⟨List.length_map .., hl, fun hn => ?_⟩
  obtain ⟨x, hx, _⟩ := h 0 hn
  refine ⟨x, hx, fun j p hj => ?_⟩
  have hjl : j < l.length := by
    have := (List.getElem?_eq_some_iff.1 hj).1
    simpa using this
  obtain ⟨y, hy, hc⟩ := h j hjl
  rw [hx] at hy
  injection hy with hy
  subst hy
  rw [List.getElem?_map, List.getElem?_eq_getElem hjl] at hj
  have e : l.getD j [] = l[j] := by rw [List.getD_eq_getElem?_getD, List.getElem?_eq_getElem hjl]; rfl
  rw [e] at hc
  injection hj with hj
  subst hj
  refine ⟨_, rfl, k56_mk _ _, fun i u hu => ?_⟩
  obtain rfl | rfl | rfl | h3 : i = 0 ∨ i = 1 ∨ i = 2 ∨ 3 ≤ i := by omega
  · rw [show k56.sz = 3 from rfl, hc 0 (by decide)]; exact hu
  · rw [show k56.sz = 3 from rfl, hc 1 (by decide)]; exact hu
  · rw [show k56.sz = 3 from rfl, hc 2 (by decide)]; exact hu
  · rw [List.getElem?_eq_none (by simpa using h3)] at hu; cases hu
/-- The document's table, read: a map of its groups. -/
theorem tab_read {P E f k G : Int} {L : List S56} (h : Good L) (hP : 0 ≤ P ∧ P < 65536) (hE : 0 ≤ E ∧ E < 65536) (hff : f = 12 ∨ f = 13) (hk : idxP P E rankL = k) (h0 : 0 ≤ k) (hv : (P == 0 && E == 5) = false) (hG : 1 ≤ G ∧ G ≤ 4096) (A0 : Option Addr) (c0 : Nat) (w : World) (hr0 : Kd.C (Kd.int .u8) w A0 (tabB P E (subB f L)).length (tabB P E (subB f L))) :
    Calls Try.prog 26 #[.slice A0 (tabB P E (subB f L)).length c0, .int .i64 G] w fun e w' => ∃ (m : Nat) (A : Option Addr) (c : Nat), e = .returned (.tuple #[.pointer (some ⟨m, 0, none⟩), .int .i64 0]) ∧ RowQ 4 w' A (lg f L) ∧
      w'.heap[m]? = some (.cells #[.int .i64 f, .int .i64 G, .slice A (lg f L).length c, .nilFunc, .slice none 0 0] 93 (0, 0)) ∧ Below w.heap.size w w' := by
  refine (lread_ok A0 c0 _ P E k f G L.length w hr0 (tab_of h hP hE hff hk h0 hv) hG).mono ?_
  rintro e w' ⟨m, v, rfl, ho, hm, _, hb⟩
  rw [tab_drop, grps_lg h, ← lg_len f L] at ho
  obtain ⟨A, c, rfl, hR⟩ := row4_of ho (lg4 f L)
  exact ⟨m, A, c, rfl, hR, hm, hb⟩
theorem tab_glyph {f G code : Int} {L : List S56} (h : Good L) (hff : f = 12 ∨ f = 13) {A : Option Addr} {c m : Nat} {w : World} (hR : RowQ 4 w A (lg f L)) (hm : w.heap[m]? = some (.cells #[.int .i64 f, .int .i64 G, .slice A (lg f L).length c, .nilFunc, .slice none 0 0] 93 (0, 0))) :
    Calls Try.prog 29 #[.pointer (some ⟨m, 0, none⟩), .int .i64 code] w fun e w' => e = .returned (.int .i64 (glyphOf (lg f L) G code)) ∧ Below w.heap.size w w' :=
  glyph_calls A c (lg f L) m f G code w hm hR (by have := h.few; rw [lg_len]; omega) (lg_mono h) (lg_ok h hff)
theorem good1 : Good [⟨97, 98, 5⟩] := by
  refine ⟨by decide, ?_, ?_⟩
  · intro z hz
    obtain rfl : z = ⟨97, 98, 5⟩ := by simpa using hz
    exact ⟨⟨by decide, by decide⟩, ⟨by decide, by decide⟩, ⟨by decide, by decide⟩⟩
  · intro i hi
    obtain rfl : i = 0 := by simp at hi; omega
    simp [prevT]
set_option maxRecDepth 100000 in
set_option maxHeartbeats 4000000 in
theorem alive.calls (w : World) : Calls Try.prog 25 #[] w fun e w' => e = .returned (.bool true) ∧ Below w.heap.size w w' := by
  have hnil : ∀ (p : Nat) (W : World), (binOp BinOp.neq 57 (.pointer (some ⟨p, 0, none⟩)) (.pointer none)).run Try.prog W = .ok (.bool true) W := fun _ _ => by kernel_rfl
  have hC := c56_of (w := w.alloc (.cells #[.int .i64 97, .int .i64 98, .int .i64 5] 56)) (A := some ⟨w.heap.size, 0, none⟩) (l := [[97, 98, 5]]) (by
    intro i hi
    obtain rfl : i = 0 := by simp at hi; omega
    refine ⟨_, rfl, fun j hj => ?_⟩
    have ea : (⟨w.heap.size, 0, none⟩ : Addr).add (0 * 3 + j) = ⟨w.heap.size, j, none⟩ := by
      unfold Addr.add
      split
      · rename_i h0; simp at h0; rw [h0]
      · simp
    rw [ea, blk_cell (blk_new _ _)]
    obtain rfl | rfl | rfl : j = 0 ∨ j = 1 ∨ j = 2 := by omega
    all_goals rfl) (by decide)
  have HF := Aside0.mk (serifref05_Form12.calls 15 12 (some ⟨w.heap.size, 0, none⟩) 1 [⟨97, 98, 5⟩] (subB 12 [⟨97, 98, 5⟩]) _ hC (by decide) (form_f 12 [⟨97, 98, 5⟩] good1.fit (by decide) (by decide) 0))
  have HT := Aside0.mk (fun A2 c2 W h2 hc => serifref05_Table.calls 8 3 10 A2 c2 (subB 12 [⟨97, 98, 5⟩]) (tabB 3 10 (subB 12 [⟨97, 98, 5⟩])) W h2 hc (table_f 3 10 _ (by decide) (by decide) (by rw [sub_len]; decide) 0))
  have HR := Aside0.mk (fun A0 c0 W hr => tab_read (P := 3) (E := 10) (f := 12) (k := 0) (G := 10) good1 (by decide) (by decide) (.inl rfl) (by decide) (by decide) (by decide) (by decide) A0 c0 W hr)
  have HG := Aside0.mk (fun (code : Int) (A : Option Addr) (c m : Nat) (W : World) hr hm => tab_glyph (f := 12) (G := 10) (code := code) good1 (.inl rfl) (A := A) (c := c) (m := m) (w := W) hr hm)
  have HFm := Aside0.mk (fun (W : World) (m : Nat) (v fn s : Value) hm => form_calls W m 12 10 v fn s hm)
  have g98 : glyphOf (lg 12 [⟨97, 98, 5⟩]) 10 98 = 6 := by decide
  have g99 : glyphOf (lg 12 [⟨97, 98, 5⟩]) 10 99 = 0 := by decide
  have G98 := Aside0.mk g98
  have G99 := Aside0.mk g99
  clear hC g98 g99
  generalize tabB 3 10 (subB 12 [⟨97, 98, 5⟩]) = tb at *
  generalize subB 12 [⟨97, 98, 5⟩] = sb at *
  generalize lg 12 [⟨97, 98, 5⟩] = LL at *
  go_enter Try.func25, Try.ntmps25
  go_wp2_with (first | (go_at_call 28; (refine HF.out.mono ?_); rintro e w1 ⟨v1, rfl, ho, hb⟩; obtain ⟨A1, c1, rfl⟩ := Kd.R_slice ho; have HO1 := Aside0.mk ho; have HB1 := Aside0.mk (below_then (below_alloc (Below.refl _ _) _) (below_alloc (Below.refl w.heap.size w) _).size hb); clear ho hb) | (go_at_call 27; (refine (HT.out A1 c1 _ (Kd.R_reads' HO1.out).2.2 (Kd.R_reads' HO1.out).2.1).mono ?_); rintro e w2 ⟨v2, rfl, ho, hb⟩; obtain ⟨A2, c2, rfl⟩ := Kd.R_slice ho; have HO2 := Aside0.mk ho; have HB2 := Aside0.mk (below_step HB1.out hb); clear ho hb) | (go_at_call 26; (refine (HR.out A2 c2 _ (Kd.R_reads' HO2.out).2.2).mono ?_); rintro e w3 ⟨m, A, c, rfl, hr, hm, hb⟩; have HR3 := Aside0.mk hr; have HM3 := Aside0.mk hm; have HB3 := Aside0.mk (below_step HB2.out hb); clear hr hm hb) | (go_at_call 39; (refine (HFm.out _ m _ _ _ HM3.out).mono ?_); rintro e w4 ⟨rfl, rfl⟩) | (go_at_call 29; ((with_reducible refine (HG.out 98 A c m _ HR3.out HM3.out).mono ?_); rw [G98.out]; rintro e w5 ⟨rfl, hb⟩; have HR5 := Aside0.mk (HR3.out.below hb); have HM5 := Aside0.mk (blk_below HM3.out hb); have HB5 := Aside0.mk (below_step HB3.out hb); clear hb)) | (go_at_call 29; ((with_reducible refine (HG.out 99 A c m _ HR5.out HM5.out).mono ?_); rw [G99.out]; rintro e w6 ⟨rfl, hb⟩; have HB6 := Aside0.mk (below_step HB5.out hb); clear hb)))
  go_ret
  exact ⟨rfl, HB6.out⟩
set_option maxRecDepth 100000 in
set_option maxHeartbeats 4000000 in
theorem names.calls (w : World) : Calls Try.prog 6 #[] w fun e w' => e = .returned (.bool true) ∧ Below w.heap.size w w' := by
  go_enter Try.func6, Try.ntmps6
  go_wp2_with (go_at_call 25; (refine (alive.calls _).mono ?_); rintro e w1 ⟨rfl, hb⟩; have HB := Aside0.mk hb; clear hb)
  go_ret
  exact ⟨rfl, HB.out⟩
end Go.Proofs.Ytebmfbfmdbimdaa.F
