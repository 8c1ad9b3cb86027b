/- The law CmapBounds: no glyph is answered that the font hasn't: walked. -/
import Derived.Test.YtebmfbfmdbimdaaZCmapBj
import Derived.Test.YtebmfbfmdbimdaaZBkl
import Derived.Test.YtebmfbfmdbimdaaZCmap11
namespace Go.Proofs.Ytebmfbfmdbimdaa.F
open Go.RowKit Go.Proofs.YtebmfbfmdbimdaaW.PrintWords Go.Proofs.YtebmfbfmdbimdaaW.PrintLast Go.Proofs.YtebmfbfmdbimdaaW.PrintMore Go.Proofs.Ytebmfbfmdbimdaa.D Go.Proofs.Ytebmfbfmdbimdaa.rowQ
set_option linter.unusedVariables false
set_option linter.unusedSimpArgs false
set_option maxRecDepth 100000 in
set_option maxHeartbeats 4000000 in
theorem lread_any (A0 : Option Addr) (c0 : Nat) (l : List Int) (G : Int) (w : World) (hr0 : Kd.C (Kd.int .u8) w A0 l.length l) (hb : ∀ z ∈ l, 0 ≤ z ∧ z ≤ 255) (hl : l.length < 140737488355328) :
    Calls Try.prog 26 #[.slice A0 l.length c0, .int .i64 G] w (ReadP G w) := by
  have hnil : ∀ (p : Nat) (W : World), (binOp BinOp.eql 85 (.pointer (some ⟨p, 0, none⟩)) (.pointer none)).run Try.prog W = .ok (.bool false) W := fun _ _ => by kernel_rfl
  have HR0 := Aside0.mk hr0
  have LM := Aside0.mk hl
  have HN := Aside0.mk (fun A0 c0 W hr hc => peek_New.calls A0 c0 l W hr hc LM.out)
  have HRd := Aside0.mk (fun (W : World) (p : Nat) (A : Option Addr) (c : Nat) (hv : View W p A c l) => read_any W p A c l G hv hb hl)
  have LMA : Aside0 (([] : List Int).length + l.length < 140737488355328) := ⟨by simpa using LM.out⟩
  have HB := Aside0.mk (Below.refl w.heap.size w)
  clear hr0 hb hl
  go_enter Try.func26, Try.ntmps26
  go_wp2_with (first | ((with_reducible refine gate_dst (N := 7) rfl ?_); refine Kd.R_lit (Kd.int .u8) _ 5 ?hg (N := 7) ?hd (xs := ([] : List Int)) (inner := []) (ok := fun _ => True) (okp := fun _ => True) ?hr ?hp (fun _ hk => hk) trivial (Below.refl _ _) (Nat.le_refl _) (by simp) ?_; (case hd => rfl); (case hg => rfl); (case hr => first | (go_simp; done) | (go_simp; rfl)); (case hp => exact (Reps.none _ _)); intro v2 w2 ho2 hb2 hg_ hnew_; clear hg_ hnew_; have HO := Aside0.mk (Kd.R_lower ho2 (below_size HB.out)); have HBn := Aside0.mk (below_step HB.out hb2); clear HB ho2 hb2; have HB := HBn; clear HBn) | ((with_reducible refine gate_builtin (b := .append) (xs := #[.tmp 7, .tmp 8]) rfl ?_); at_builtin; refine Kd.R_append_rows (Kd.int .u8) (w0 := w) w.heap.size rfl (.tmp 7) (.tmp 8) 60 5 (.int .u8 0) 1 rfl Try.underlying60 infoU8 rfl (by decide) (by omega) v2 ([] : List Int) l _ _ _ (fun _ => True) (fun _ => False) rfl rfl HO.out (Kd.C_below HR0.out HB.out) (fun _ _ h => h) (fun _ h => h.elim) (fun _ _ => trivial) HB.out (below_size HB.out) (by have := LMA.out; omega) ?_; intro v3 w3 ho hb hg hat; obtain ⟨A3, c3, ev3⟩ := Kd.R_slice ho; subst ev3; have HO3 := Aside0.mk ho; have HBn := Aside0.mk hb; clear HB HO ho hb hg hat; have HB := HBn; clear HBn) | (go_at_call 40; (refine (HN.out A3 c3 _ (Kd.R_reads' HO3.out).2.2 (Kd.R_reads' HO3.out).2.1).mono ?_); rintro e w4 ⟨p, A, c, rfl, hp1, hp2, hblk, hrow, hbel⟩; have HV := Aside0.mk (View.mk hblk (Kd.R_reads' hrow).2.2 (Kd.R_reads' hrow).2.1); have HB2 := Aside0.mk (below_step HB.out hbel); clear hblk hrow hbel HB HO3 hp1 hp2) | (go_at_call 41; ((with_reducible refine (HRd.out _ p A c HV.out).mono ?_); rintro e w5 ⟨⟨m, rfl, hm, hG1⟩ | ⟨cc, hcc, rfl⟩, hb⟩ <;> (have HB5 := Aside0.mk (below_step HB2.out hb); clear hb))))
  · go_ret2
    exact ⟨.inl ⟨m, rfl, hm, hG1⟩, HB5.out⟩
  · go_ret2
    exact ⟨.inr ⟨cc, hcc, rfl⟩, HB5.out⟩
set_option maxRecDepth 100000 in
set_option maxHeartbeats 4000000 in
theorem bounds.calls (A0 : Option Addr) (c0 : Nat) (l : List Int) (G a0 a1 : Int) (w : World) (hr0 : Kd.C (Kd.int .u8) w A0 l.length l) (hb : ∀ z ∈ l, 0 ≤ z ∧ z ≤ 255) (hl : l.length < 140737488355328) :
    Calls Try.prog 8 #[.slice A0 l.length c0, .int .i64 G, .agg #[.int .i64 a0, .int .i64 a1]] w fun e w' => e = .returned (.bool true) ∧ Below w.heap.size w w' := by
  have n1 : ∀ (W : World), (binOp BinOp.eql 57 (.pointer none) (.pointer none)).run Try.prog W = .ok (.bool true) W := fun _ => by kernel_rfl
  have n2 : ∀ (p : Nat) (W : World), (binOp BinOp.eql 57 (.pointer (some ⟨p, 0, none⟩)) (.pointer none)).run Try.prog W = .ok (.bool false) W := fun _ _ => by kernel_rfl
  have HB0 := Aside0.mk (below_alloc (Below.refl w.heap.size w) (.cells #[.int .i64 a0, .int .i64 a1] 22))
  have HK := Aside0.mk (blk_new w (.cells #[.int .i64 a0, .int .i64 a1] 22))
  have HL := Aside0.mk (fun (W : World) (hr : Kd.C (Kd.int .u8) W A0 l.length l) => lread_any A0 c0 l G W hr hb hl)
  have HR0 := Aside0.mk hr0
  clear hr0 hb hl
  go_enter Try.func8, Try.ntmps8
  go_upto_region 4 with (first | (go_at_call 25; (refine (alive.calls _).mono ?_); rintro e w1 ⟨rfl, hb⟩; have HB1 := Aside0.mk (below_step HB0.out hb); have HK1 := Aside0.mk (blk_below HK.out hb); clear hb) | (go_at_call 26; ((with_reducible refine (HL.out _ (Kd.C_below HR0.out HB1.out)).mono ?_); rintro e w2 ⟨⟨m, rfl, hm, hG1⟩ | ⟨cc, hcc, rfl⟩, hb⟩ <;> (have HB2 := Aside0.mk (below_step HB1.out hb); have HK2 := Aside0.mk (blk_below HK1.out hb); clear hb))))
  · have k0 : w2.cell? ⟨w.heap.size, 0, none⟩ = some (.int .i64 a0) := (blk_cell HK2.out 0).trans rfl
    have HMM := Aside0.mk hm
    obtain ⟨F, hF, hC⟩ := glyph_any hm hG1
    have HG := Aside0.mk (hC w2 a0 (Below.refl _ _))
    have HV := Aside0.mk (fun (W : World) (hb : Below w2.heap.size w2 W) => variant_any (hm.below hb) hG1 F hF (fun W' code hb2 => hC W' code (below_then hb hb.size hb2)) a0 a1)
    have f0 := hF a0
    generalize F a0 = g at *
    have b1 : decide (0 ≤ g) = true := decide_eq_true f0.1
    have b2 : decide (g < G) = true := decide_eq_true f0.2
    clear hF hC hm hG1
    go_upto_region 8 with (first | (go_at_call 29; ((with_reducible refine HG.out.mono ?_); rintro e w3 ⟨rfl, hb⟩; have HB3 := Aside0.mk (below_step HB2.out hb); have HK3 := Aside0.mk (blk_below HK2.out hb); have HB23 := Aside0.mk hb; have j0 : w3.cell? ⟨w.heap.size, 0, none⟩ = some (.int .i64 a0) := (blk_cell HK3.out 0).trans rfl; have j1 : w3.cell? ⟨w.heap.size, 1, none⟩ = some (.int .i64 a1) := (blk_cell HK3.out 1).trans rfl; clear hb)) | (go_at_call 30; ((with_reducible refine (HV.out _ HB23.out).mono ?_); rintro e w4 ⟨⟨v, k, rfl, v0, v1, k0', k2, kv⟩, hb⟩; have HB4 := Aside0.mk (below_step HB3.out hb); clear hb)))
    have b3 : decide (0 ≤ v) = true := decide_eq_true v0
    have b4 : decide (v < G) = true := decide_eq_true v1
    have b5 : decide (0 ≤ k) = true := decide_eq_true k0'
    have b6 : decide (k ≤ 2) = true := decide_eq_true k2
    have hd : (k != 1) = true ∨ ((k != 1) = false ∧ (v == g) = true) := by
      by_cases hk : k = 1
      · exact .inr ⟨by simp [hk], by rw [kv hk]; simp⟩
      · exact .inl (by simpa using hk)
    clear kv v0 v1 k0' k2 f0
    rcases hd with hd | ⟨hd, hd2⟩
    all_goals
      go_wp2_with fail
      go_ret
      exact ⟨rfl, HB4.out⟩
  · have hd : (cc != 0) = true := by simpa using hcc
    go_wp2_with fail
    go_ret
    exact ⟨rfl, HB2.out⟩
end Go.Proofs.Ytebmfbfmdbimdaa.F
