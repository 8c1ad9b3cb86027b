/- Package cmap, whatever the bytes: a code's glyph (CmapBounds). Package cmap, whatever the bytes: a code's glyph with a selector (CmapBounds). -/
import Derived.Test.YtebmfbfmdbimdaaZCmapBi
import Derived.Test.YtebmfbfmdbimdaaZCmap8
namespace Go.Proofs.Ytebmfbfmdbimdaa.F
open Go.RowKit Go.Proofs.YtebmfbfmdbimdaaW.PrintWords Go.Proofs.YtebmfbfmdbimdaaW.PrintLast Go.Proofs.YtebmfbfmdbimdaaW.PrintMore Go.Proofs.Ytebmfbfmdbimdaa.rowQ
set_option linter.unusedVariables false
set_option linter.unusedSimpArgs false
set_option maxRecDepth 100000 in
set_option maxHeartbeats 4000000 in
theorem glyph_gen (A : Option Addr) (c : Nat) (L : List (List Int)) (m : Nat) (f G code : Int) (sv : Value) (w : World) (hm : w.heap[m]? = some (.cells #[.int .i64 f, .int .i64 G, .slice A L.length c, .nilFunc, sv] 93 (0, 0))) (hR : RowQ 4 w A L) (hL : L.length < 140737488355328) (hmono : ∀ a b, a ≤ b → b < L.length → (L.getD a []).getD 1 0 ≤ (L.getD b []).getD 1 0)
    (hw : ∀ z ∈ L, 0 ≤ z.getD 0 0 ∧ 0 ≤ z.getD 2 0 ∧ z.getD 2 0 ≤ 4294967296 ∧ (z.getD 3 0 = 0 ∨ z.getD 3 0 = 1)) :
    Calls Try.prog 29 #[.pointer (some ⟨m, 0, none⟩), .int .i64 code] w fun e w' => e = .returned (.int .i64 (glyphOf L G code)) ∧ Below w.heap.size w w' := by
  have HM := Aside0.mk hm
  have HC := Aside0.mk (fun (W : World) (hr : RowQ 4 W A L) => find_calls A c L code W hr hL hmono)
  have HK := Aside0.mk (fun (W : World) (x : Int) (h : W.heap[m]? = some (.cells #[.int .i64 f, .int .i64 G, .slice A L.length c, .nilFunc, sv] 93 (0, 0))) => known_calls W m f G x _ _ _ h)
  have HR := Aside0.mk hR
  have HW := Aside0.mk hw
  have c2 := (blk_cell hm 2).trans rfl
  have c3 := (blk_cell hm 3).trans rfl
  have hnf : ∀ W : World, (binOp BinOp.neq 63 .nilFunc .nilFunc).run Try.prog W = .ok (.bool false) W := fun W => by kernel_rfl
  clear hm hR hmono hw
  by_cases ho : code < 0 ∨ 1114111 < code
  · have hd : decide (code < 0) = true ∨ (decide (code < 0) = false ∧ decide (1114111 < code) = true) := by
      simp only [decide_eq_true_eq, decide_eq_false_iff_not]
      omega
    have hg : glyphOf L G code = 0 := if_pos ho
    have HG := Aside0.mk hg
    clear ho hg
    rcases hd with h1 | ⟨h1, h2⟩
    all_goals
      go_enter Try.func29, Try.ntmps29
      go_wp2_with fail
      go_ret
      exact ⟨by rw [HG.out]; rfl, Below.refl _ _⟩
  · have h1 : decide (code < 0) = false := decide_eq_false (by omega)
    have h2 : decide (1114111 < code) = false := decide_eq_false (by omega)
    have HCO : Aside0 (0 ≤ code ∧ code ≤ 1114111) := ⟨by omega⟩
    have HG : Aside0 (glyphOf L G code = _) := ⟨if_neg ho⟩
    clear ho
    go_enter Try.func29, Try.ntmps29
    go_wp2_with fail
    refine (HC.out _ HR.out).mono ?_
    rintro e w1 ⟨i, hi, hlo, hhi, he, hb⟩
    have HF := find_at hi hlo hhi
    rw [HF] at HG
    have HM1 := blk_below HM.out hb
    have HB1 := Aside0.mk hb
    clear hlo hhi hb HC HF
    by_cases hlt : i < L.length ∧ (L.getD i []).getD 0 0 ≤ code
    · rw [FindR, if_pos hlt] at he
      rw [if_pos hlt.1] at HG
      have HWi := Aside0.mk (HW.out (L.getD i []) (by rw [List.getD_eq_getElem?_getD, List.getElem?_eq_getElem hlt.1]; exact List.getElem_mem _))
      have hle := hlt.2
      simp only [if_pos hle] at HG
      generalize (L.getD i []).getD 0 0 = z0 at *
      generalize (L.getD i []).getD 1 0 = z1 at *
      generalize (L.getD i []).getD 2 0 = z2 at *
      generalize (L.getD i []).getD 3 0 = z3 at *
      have HM2 := Aside0.mk (blk_below HM1 (below_alloc (Below.refl _ _) (.cells #[.int .i64 z0, .int .i64 z1, .int .i64 z2, .int .i64 z3] 95)))
      have HX : Aside0 (wrap64 (z2 + wrap64 (z3 * wrap64 (code - z0))) = z2 + z3 * (code - z0)) := ⟨by
        obtain ⟨h0, h2, h3, h1⟩ := HWi.out
        have := HCO.out
        unfold wrap64
        rcases h1 with rfl | rfl
        · omega
        · omega⟩
      subst he
      clear hlt HM1 hle
      have HV : Aside0 (∃ y, (if z2 + z3 * (code - z0) < G then z2 + z3 * (code - z0) else 0) = y) := ⟨⟨_, rfl⟩⟩
      obtain ⟨y, hy⟩ := HV.out
      have HY := Aside0.mk hy
      rw [hy] at HG
      clear HV hy
      go_wp2_with (go_at_call 44; rw [HX.out]; (refine (HK.out _ _ HM2.out).mono ?_); rw [HY.out]; rintro e w2 ⟨rfl, rfl⟩)
      go_ret
      refine ⟨?_, below_alloc HB1.out _⟩
      rw [HG.out]
      rfl
    · rw [FindR, if_neg hlt] at he
      have HG0 : Aside0 (glyphOf L G code = 0) := ⟨by
        rw [HG.out]
        by_cases h : i < L.length
        · rw [if_pos h]
          exact if_neg (fun h2 => hlt ⟨h, h2⟩)
        · rw [if_neg h]⟩
      subst he
      clear hlt HM1 HG
      go_wp2_with fail
      go_ret
      exact ⟨by rw [HG0.out]; rfl, below_alloc HB1.out _⟩
theorem Gz.of {z : List Int} (h : Gz z) : 0 ≤ z.getD 0 0 ∧ 0 ≤ z.getD 2 0 ∧ z.getD 2 0 ≤ 4294967296 ∧ (z.getD 3 0 = 0 ∨ z.getD 3 0 = 1) := ⟨h.2.1, h.2.2.1, h.2.2.2.1, h.2.2.2.2⟩
theorem glyphOf_in {L : List (List Int)} (h : ∀ z ∈ L, Gz z) {G : Int} (hG : 1 ≤ G) (code : Int) : 0 ≤ glyphOf L G code ∧ glyphOf L G code < G := by
  unfold glyphOf
  split
  · omega
  · split
    · rename_i z hz
      have hm := (h z (List.mem_of_find?_eq_some hz)).of
      split
      · rename_i h0
        split
        · rename_i h1
          refine ⟨?_, h1⟩
          rcases hm.2.2.2 with h3 | h3 <;> rw [h3] <;> omega
        · omega
      · omega
    · omega
set_option maxRecDepth 100000 in
set_option maxHeartbeats 4000000 in
theorem glyph_one (w : World) (m be bn bs bo br bd : Nat) (f G code x : Int) (v sv : Value) (hm : w.heap[m]? = some (.cells #[.int .i64 f, .int .i64 G, v, .func (.func 84) #[] #[.pointer (some ⟨be, 0, none⟩), .pointer (some ⟨bn, 0, none⟩), .pointer (some ⟨bs, 0, none⟩), .pointer (some ⟨bo, 0, none⟩), .pointer (some ⟨br, 0, none⟩), .pointer (some ⟨bd, 0, none⟩)], sv] 93 (0, 0))) (hc : 0 ≤ code ∧ code ≤ 1114111) (h1 : OneAt be bn bs bo br bd code x w) :
    Calls Try.prog 29 #[.pointer (some ⟨m, 0, none⟩), .int .i64 code] w fun e w' => e = .returned (.int .i64 (if x < G then x else 0)) ∧ Below w.heap.size w w' := by
  have HO : Aside0 (Calls Try.prog 84 #[.int .i64 code, .pointer (some ⟨be, 0, none⟩), .pointer (some ⟨bn, 0, none⟩), .pointer (some ⟨bs, 0, none⟩), .pointer (some ⟨bo, 0, none⟩), .pointer (some ⟨br, 0, none⟩), .pointer (some ⟨bd, 0, none⟩)] w fun e w' => e = .returned (.int .i64 x) ∧ Below w.heap.size w w') := ⟨h1⟩
  have hnf : ∀ W : World, (binOp BinOp.neq 63 (.func (.func 84) #[] #[.pointer (some ⟨be, 0, none⟩), .pointer (some ⟨bn, 0, none⟩), .pointer (some ⟨bs, 0, none⟩), .pointer (some ⟨bo, 0, none⟩), .pointer (some ⟨br, 0, none⟩), .pointer (some ⟨bd, 0, none⟩)]) .nilFunc).run Try.prog W = .ok (.bool true) W := fun W => by kernel_rfl
  obtain ⟨y, hy⟩ : ∃ y, (if x < G then x else 0) = y := ⟨_, rfl⟩
  rw [hy]
  have HY := Aside0.mk hy
  have HM := Aside0.mk hm
  have c3 := (blk_cell hm 3).trans rfl
  have d1 : decide (code < 0) = false := decide_eq_false (by omega)
  have d2 : decide (1114111 < code) = false := decide_eq_false (by omega)
  clear hm h1 hc hy
  go_enter Try.func29, Try.ntmps29
  go_wp2_with (first | (go_at_call 84; ((with_reducible refine HO.out.mono ?_); rintro e w1 ⟨rfl, hb⟩; have HM1 := Aside0.mk (blk_below HM.out hb); have HB1 := Aside0.mk hb; clear hb)) | (go_at_call 44; ((with_reducible refine (known_calls _ m f G x _ _ _ HM1.out).mono ?_); rw [HY.out]; rintro e w2 ⟨rfl, rfl⟩)))
  go_ret
  exact ⟨rfl, HB1.out⟩
set_option maxRecDepth 100000 in
set_option maxHeartbeats 4000000 in
theorem glyph_out (w : World) (m : Nat) (code : Int) (hc : ¬ (0 ≤ code ∧ code ≤ 1114111)) :
    Calls Try.prog 29 #[.pointer (some ⟨m, 0, none⟩), .int .i64 code] w fun e w' => e = .returned (.int .i64 0) ∧ Below w.heap.size w w' := by
  have hd : decide (code < 0) = true ∨ (decide (code < 0) = false ∧ decide (1114111 < code) = true) := by
    simp only [decide_eq_true_eq, decide_eq_false_iff_not]
    omega
  clear hc
  rcases hd with h1 | ⟨h1, h2⟩
  all_goals
    go_enter Try.func29, Try.ntmps29
    go_wp2_with fail
    go_ret
    exact ⟨rfl, Below.refl _ _⟩
/-- The glyphs of a map: a function of the code alone, whatever was made since. -/
theorem glyph_any {m : Nat} {G : Int} {W : World} (h : MapOk m G W) (hG : 1 ≤ G) : ∃ F : Int → Int, (∀ code, 0 ≤ F code ∧ F code < G) ∧ ∀ (W' : World) (code : Int), Below W.heap.size W W' →
    Calls Try.prog 29 #[.pointer (some ⟨m, 0, none⟩), .int .i64 code] W' fun e w' => e = .returned (.int .i64 (F code)) ∧ Below W'.heap.size W' w' := by
  obtain ⟨f, v, fn, sv, base, Ss, hS, _, _, _, hm⟩ := h
  rcases hS with ⟨rfl, b2, L, t, ho, hGl, hl⟩ | ⟨rfl, p, A, c, l, be, bn, bs, bo, br, bd, E, S, O, D, hL, hs, rfl⟩
  · refine ⟨glyphOf L G, fun code => glyphOf_in hGl.ok hG code, fun W' code hb => ?_⟩
    obtain ⟨A, c, rfl, hR⟩ := row4_of (pw_own_below ho hb) (fun z hz => (hGl.ok z hz).1)
    exact glyph_gen A c L m f G code sv W' (blk_below hm hb) hR (by omega) hGl.up (fun z hz => (hGl.ok z hz).of)
  · refine ⟨fun code => if hc : 0 ≤ code ∧ code ≤ 1114111 then (if Classical.choose (one_ex hL code hc) < G then Classical.choose (one_ex hL code hc) else 0) else 0, fun code => ?_, fun W' code hb => ?_⟩
    · by_cases hc : 0 ≤ code ∧ code ≤ 1114111
      · have h1 := Classical.choose_spec (one_ex hL code hc)
        simp only [dif_pos hc]
        split
        · exact ⟨h1.1, by assumption⟩
        · omega
      · simp only [dif_neg hc]
        omega
    · by_cases hc : 0 ≤ code ∧ code ≤ 1114111
      · have h1 := Classical.choose_spec (one_ex hL code hc)
        simp only [dif_pos hc]
        exact glyph_one W' m be bn bs bo br bd f G code _ _ sv (blk_below hm hb) hc (h1.2.2 W' m be bn bs bo br bd p A c (hs.below hb))
      · simp only [dif_neg hc]
        exact glyph_out W' m code hc
end Go.Proofs.Ytebmfbfmdbimdaa.F
namespace Go.Proofs.Ytebmfbfmdbimdaa.F
open Go.RowKit Go.Proofs.YtebmfbfmdbimdaaW.PrintWords Go.Proofs.YtebmfbfmdbimdaaW.PrintLast Go.Proofs.YtebmfbfmdbimdaaW.PrintMore Go.Proofs.Ytebmfbfmdbimdaa.rowQ
set_option linter.unusedVariables false
set_option linter.unusedSimpArgs false
theorem sel_get (Ss : List (Int × Value × Value)) : ∀ (i j : Nat) (h : i < Ss.length), j < 3 → (Ss.flatMap selC)[i * 3 + j]? = (selC Ss[i])[j]? := by
  induction Ss with
  | nil => intro i j h; simp at h
  | cons s Ss ih =>
    intro i j h hj
    have hl : (selC s).length = 3 := rfl
    rw [List.flatMap_cons]
    cases i with
    | zero =>
      rw [Nat.zero_mul, Nat.zero_add, List.getElem?_append_left (by omega)]
      rfl
    | succ i =>
      rw [List.getElem?_append_right (by omega), show (i + 1) * 3 + j - (selC s).length = i * 3 + j by omega, ih i j (by simpa using h) hj]
      rfl
/-- A selector's cells, as a walk spells them. -/
theorem sel_cells {w : World} {base : Nat} {e : TypeId} {As : Option Addr} {cs : Nat} {Ss : List (Int × Value × Value)} (h : w.ownsRow base e 3 (.slice As Ss.length cs) Ss.length (Ss.flatMap selC)) {i : Nat} (hi : i < Ss.length) : ∃ x, As = some x ∧ w.cell? (x.add (i * 3)) = some (.int .i64 Ss[i].1) ∧
    w.cell? ⟨(x.add (i * 3)).block, (x.add (i * 3)).off + 1, none⟩ = some Ss[i].2.1 ∧ w.cell? ⟨(x.add (i * 3)).block, (x.add (i * 3)).off + 2, none⟩ = some Ss[i].2.2 := by
  rcases h.2 with ⟨_, hn⟩ | ⟨g, cap, cur, he, hbg, hg, hnc, hcm, hcs, htake⟩
  · exact absurd hi (by omega)
  · injection he with he _ _
    subst he
    have hget : ∀ j, j < 3 → w.cell? ((⟨g, 0, none⟩ : Addr).add (i * 3 + j)) = (selC Ss[i])[j]? := fun j hj => by
      have h1 := sel_get Ss i j hi hj
      have h2 : ∃ u, (selC Ss[i])[j]? = some u := by
        have hl : (selC Ss[i]).length = 3 := rfl
        exact ⟨_, List.getElem?_eq_getElem (by omega)⟩
      obtain ⟨u, hu⟩ := h2
      rw [hu] at h1 ⊢
      exact h.cells rfl _ _ h1
    have hadd : ∀ j, 0 < j → ((⟨g, 0, none⟩ : Addr).add (i * 3)).add j = ⟨((⟨g, 0, none⟩ : Addr).add (i * 3)).block, ((⟨g, 0, none⟩ : Addr).add (i * 3)).off + j, none⟩ := fun j hj => by
      rw [Addr.add, if_neg (by omega)]
    refine ⟨_, rfl, (hget 0 (by decide)).trans rfl, ?_, ?_⟩
    · rw [← hadd 1 (by decide), Go.Deep.add_add]
      exact (hget 1 (by decide)).trans rfl
    · rw [← hadd 2 (by decide), Go.Deep.add_add]
      exact (hget 2 (by decide)).trans rfl
/-- What Variant hands back. -/
def VarP (G x : Int) (w : World) (e : Ending) (w' : World) : Prop := (∃ v k : Int, e = .returned (.tuple #[.int .i64 v, .int .i64 k]) ∧ 0 ≤ v ∧ v < G ∧ 0 ≤ k ∧ k ≤ 2 ∧ (k = 1 → v = x)) ∧ Below w.heap.size w w'
set_option maxRecDepth 100000 in
set_option maxHeartbeats 4000000 in
theorem variant_any {m : Nat} {G : Int} {W : World} (h : MapOk m G W) (hG : 1 ≤ G) (F : Int → Int) (hF : ∀ code, 0 ≤ F code ∧ F code < G) (hC : ∀ (W' : World) (code : Int), Below W.heap.size W W' →
    Calls Try.prog 29 #[.pointer (some ⟨m, 0, none⟩), .int .i64 code] W' fun e w' => e = .returned (.int .i64 (F code)) ∧ Below W'.heap.size W' w') (code sel : Int) :
    Calls Try.prog 30 #[.pointer (some ⟨m, 0, none⟩), .int .i64 code, .int .i64 sel] W (VarP G (F code) W) := by
  obtain ⟨f, v, fn, sv, base, Ss, hS, ho, hn, hg, hm⟩ := h
  obtain ⟨As, cs, rfl⟩ := own_val ho
  have HO := Aside0.mk ho
  have HN := Aside0.mk hn
  have HGs := Aside0.mk hg
  have HM := Aside0.mk hm
  have HG := Aside0.mk hG
  have HFB := Aside0.mk (hF code)
  have HC := Aside0.mk (fun (W' : World) (hb : Below W.heap.size W W') => hC W' code hb)
  have c4 : W.cell? ⟨m, 4, none⟩ = some (.slice As Ss.length cs) := (blk_cell hm 4).trans rfl
  generalize F code = x at *
  clear hF hC hS ho hn hg hm hG
  go_enter Try.func30, Try.ntmps30
  go_wp2
  clear c4
  go_loopw [19] (fun s19 wr => ∃ i : Nat, s19 = .int .i64 (i : Int) ∧ Aside0 (i ≤ Ss.length) ∧ Aside0 (Below W.heap.size W wr)) (fun s19 _ => Ss.length - (intOf s19).toNat)
  case atStart => exact ⟨0, rfl, ⟨Nat.zero_le _⟩, ⟨Below.refl _ _⟩⟩
  case round =>
    obtain ⟨i, rfl, HI, HB⟩ := hrel
    by_cases hlt : i < Ss.length
    · obtain ⟨ax, rfl, k0, k1, k2⟩ := sel_cells (pw_own_below HO.out HB.out) hlt
      have hgs := HGs.out Ss[i] (List.getElem_mem hlt)
      have hgp := hgs.1.below HB.out
      have hgo := hgs.2.below HB.out
      obtain ⟨b1, Lp, tp, op, Gp, lp⟩ := hgp
      obtain ⟨b2, Lo, to_, oo, Go_, lo_⟩ := hgo
      have hn46 := HN.out
      generalize Ss[i].1 = cd at *
      generalize Ss[i].2.1 = pv at *
      generalize Ss[i].2.2 = ov at *
      obtain ⟨Ap, cp, rfl, Rp⟩ := row4_of op (fun z hz => (Gp.ok z hz).1)
      obtain ⟨Ao, co, rfl, Ro⟩ := row4_of oo (fun z hz => (Go_.ok z hz).1)
      have p0 : (0 : Int) ≤ i := by omega
      have p1 : (i : Int) < Ss.length := by omega
      have d0 : decide ((i : Int) < (Ss.length : Int)) = true := decide_eq_true p1
      have HRp := Aside0.mk Rp
      have HRo := Aside0.mk Ro
      have HGp := Aside0.mk Gp
      have HGo := Aside0.mk Go_
      have Hlp := Aside0.mk lp
      have Hlo := Aside0.mk lo_
      have HLT := Aside0.mk hlt
      have hi4 : i < 4096 := by omega
      clear hgs op oo Rp Ro Gp Go_ lp lo_ hn46
      have hd : (cd != sel) = true ∨ (cd != sel) = false := by cases (cd != sel) <;> simp
      rcases hd with hd | hd
      · go_wp2_with fail
        go_roundw
        case rel => exact ⟨i + 1, by go_num, ⟨HLT.out⟩, ⟨below_then HB.out HB.out.size (below_alloc (Below.refl _ _) _)⟩⟩
        case measure => have := HLT.out; simp [intOf]; omega
      · have hb9 := blk_new wr (.cells #[.int .i64 cd, .slice Ap Lp.length cp, .slice Ao Lo.length co] 99)
        have HB9 := Aside0.mk hb9
        have HBW := Aside0.mk (below_alloc (Below.refl wr.heap.size wr) (.cells #[.int .i64 cd, .slice Ap Lp.length cp, .slice Ao Lo.length co] 99))
        clear hb9
        go_upto_region 5 with fail
        obtain ⟨b9, hb9e⟩ : ∃ b9, b9 = wr.heap.size := ⟨_, rfl⟩
        rw [← hb9e] at HB9 ⊢
        have HBB := Aside0.mk (below_then HB.out HB.out.size HBW.out)
        have HRp := Aside0.mk (HRp.out.below HBW.out)
        have HRo := Aside0.mk (HRo.out.below HBW.out)
        clear hb9e HB HBW k0 k1 k2
        generalize wr.alloc _ = w9 at *
        have c1 : w9.cell? ⟨b9, 1, none⟩ = some (.slice Ap Lp.length cp) := (blk_cell HB9.out 1).trans rfl
        have c2 : w9.cell? ⟨b9, 2, none⟩ = some (.slice Ao Lo.length co) := (blk_cell HB9.out 2).trans rfl
        go_wp2_with fail
        refine (find_calls Ao co Lo code _ HRo.out (by have := Hlo.out; omega) HGo.out.up).mono ?_
        rintro e w10 ⟨k, hk, hlo, hhi, he, hb⟩
        have HBC := Aside0.mk (below_then HBB.out HBB.out.size hb)
        have HB10 := Aside0.mk (blk_below HB9.out hb)
        have HRp := Aside0.mk (HRp.out.below hb)
        clear hlo hhi hb c1 c2
        by_cases hf : k < Lo.length ∧ (Lo.getD k []).getD 0 0 ≤ code
        · rw [FindR, if_pos hf] at he
          have hz := (HGo.out.ok (Lo.getD k []) (by rw [List.getD_eq_getElem?_getD, List.getElem?_eq_getElem hf.1]; exact List.getElem_mem _)).of
          generalize (Lo.getD k []).getD 0 0 = z0 at *
          generalize (Lo.getD k []).getD 1 0 = z1 at *
          generalize (Lo.getD k []).getD 2 0 = z2 at *
          generalize (Lo.getD k []).getD 3 0 = z3 at *
          have HMC := Aside0.mk (blk_below HM.out (below_then HBC.out HBC.out.size (below_alloc (Below.refl _ _) (.cells #[.int .i64 z0, .int .i64 z1, .int .i64 z2, .int .i64 z3] 95))))
          obtain ⟨y, hy⟩ : ∃ y, (if z2 < G then z2 else 0) = y := ⟨_, rfl⟩
          have HY := Aside0.mk hy
          have HZ := Aside0.mk hz
          subst he
          clear hf hy hz
          go_wp2_with (go_at_call 44; ((with_reducible refine (known_calls _ m f G z2 _ _ _ HMC.out).mono ?_); rw [HY.out]; rintro e w11 ⟨rfl, rfl⟩))
          go_ret2
          refine ⟨⟨y, 2, rfl, ?_, ?_, by decide, by decide, fun h => by cases h⟩, below_then HBC.out HBC.out.size (below_alloc (Below.refl _ _) _)⟩
          · rw [← HY.out]; have := HZ.out; split <;> omega
          · rw [← HY.out]; have := HG.out; split <;> omega
        · rw [FindR, if_neg hf] at he
          subst he
          clear hf
          have hb10 := blk_alloc HB10.out (.cells #[.int .i64 0, .int .i64 0, .int .i64 0, .int .i64 0] 95)
          have HBD := Aside0.mk (below_then HBC.out HBC.out.size (below_alloc (Below.refl _ _) (.cells #[.int .i64 0, .int .i64 0, .int .i64 0, .int .i64 0] 95)))
          have HRp := Aside0.mk (HRp.out.below (below_alloc (Below.refl _ _) (.cells #[.int .i64 0, .int .i64 0, .int .i64 0, .int .i64 0] 95)))
          go_upto_region 8 with fail
          generalize w10.alloc _ = w11 at *
          have c1 : w11.cell? ⟨b9, 1, none⟩ = some (.slice Ap Lp.length cp) := (blk_cell hb10 1).trans rfl
          clear hb10 HBC HB10
          go_wp2_with fail
          refine (find_calls Ap cp Lp code _ HRp.out (by have := Hlp.out; omega) HGp.out.up).mono ?_
          rintro e w12 ⟨q, hq, hlo, hhi, he, hb⟩
          have HBE := Aside0.mk (below_then HBD.out HBD.out.size hb)
          clear hlo hhi hb c1
          by_cases hf : q < Lp.length ∧ (Lp.getD q []).getD 0 0 ≤ code
          · rw [FindR, if_pos hf] at he
            generalize (Lp.getD q []).getD 0 0 = z0 at *
            generalize (Lp.getD q []).getD 1 0 = z1 at *
            generalize (Lp.getD q []).getD 2 0 = z2 at *
            generalize (Lp.getD q []).getD 3 0 = z3 at *
            have HBF := Aside0.mk (below_then HBE.out HBE.out.size (below_alloc (Below.refl _ _) (.cells #[.int .i64 z0, .int .i64 z1, .int .i64 z2, .int .i64 z3] 95)))
            subst he
            clear hf
            go_wp2_with (go_at_call 29; ((with_reducible refine (HC.out _ HBF.out).mono ?_); rintro e w13 ⟨rfl, hb⟩; have HBG := Aside0.mk (below_then HBF.out HBF.out.size hb); clear hb))
            go_ret2
            exact ⟨⟨x, 1, rfl, HFB.out.1, HFB.out.2, by decide, by decide, fun _ => rfl⟩, HBG.out⟩
          · rw [FindR, if_neg hf] at he
            subst he
            clear hf
            go_wp2_with fail
            go_roundw
            case rel => exact ⟨i + 1, by go_num, ⟨HLT.out⟩, ⟨below_then HBE.out HBE.out.size (below_alloc (Below.refl _ _) _)⟩⟩
            case measure => have := HLT.out; simp [intOf]; omega
    · obtain rfl : i = Ss.length := by have := HI.out; omega
      have d0 : decide ((Ss.length : Int) < (Ss.length : Int)) = false := decide_eq_false (by omega)
      go_wp2
      go_ret2
      exact ⟨⟨0, 0, rfl, by decide, by have := HG.out; omega, by decide, by decide, fun h => by cases h⟩, HB.out⟩
end Go.Proofs.Ytebmfbfmdbimdaa.F
