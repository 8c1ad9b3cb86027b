/- The law that views keep their bytes, walked. -/
import Derived.Test.YtplnaannfnhhgaaPeekLaw
namespace Go.Proofs.Ytplnaannfnhhgaa.K
open Go.RowKit Go.Proofs.YtplnaannfnhhgaaW.PrintWords Go.Proofs.YtplnaannfnhhgaaW.PrintLast Go.Proofs.YtplnaannfnhhgaaW.PrintMore Go.Proofs.Ytplnaannfnhhgaa.F
attribute [local go_sem] max2_int min2_int max_two min_two max_three min_three max_four min_four
set_option linter.unusedVariables false
set_option linter.unusedSimpArgs false
set_option maxRecDepth 100000 in
set_option maxHeartbeats 4000000 in
theorem part0.calls (p : Nat) (A : Option Addr) (c : Nat) (l : List Int) (w : World) (h : View w p A c l) :
    Calls Try.prog 64 #[.pointer (some ⟨p, 0, none⟩), .int .i64 0, .int .i64 (l.length : Int)] w fun e w' => e = .returned (.tuple #[.slice A l.length c, .int .i64 0]) ∧ w' = w := by
  have hc := h.cell
  have HV := Aside0.mk h
  have hm : l.length ≤ 9223372036854775807 := h.row.2.1
  have c2b : decide ((l.length : Int) < 0) = false := decide_eq_false (by omega)
  have c3b : decide ((l.length : Int) < (l.length : Int)) = false := decide_eq_false (by omega)
  have c4b : decide ((l.length : Int) - (l.length : Int) < 0) = false := decide_eq_false (by omega)
  have hk := HV.out.cap
  have hw : IntKind.i64.wrap (0 + (l.length : Int)) = (l.length : Int) := by rw [IntKind.wrap_i64]; omega
  obtain ⟨i0, hi0, hz0⟩ := Option.map_eq_some_iff.1 infoU8
  simp only [Prod.mk.injEq] at hz0
  have hcut := cut_mid (P := Try.prog) 22 5 .i64 .i64 Try.underlying22 hi0 1 hz0.2.1 A l.length c 0 (l.length : Int) (by omega) (by omega) (by omega) hk
  have hA : (if c = (0 : Int).toNat then A else A.map (fun x => x.add ((0 : Int).toNat * 1))) = A := by
    split
    · rfl
    · cases A with
      | none => rfl
      | some a => simp [Addr.add]
  have hn : (l.length : Int).toNat - (0 : Int).toNat = l.length := by omega
  have hd : c - (0 : Int).toNat = c := by simp
  rw [hA, hn, hd] at hcut
  clear hA hn hd hi0 hz0 h
  go_enter Try.func64, Try.ntmps64
  go_wp2
  go_ret2
  first | exact ⟨rfl, rfl⟩ | rfl
set_option maxRecDepth 100000 in
set_option maxHeartbeats 2000000 in
theorem cut0.calls (p : Nat) (A : Option Addr) (c : Nat) (l : List Int) (w : World) (h : View w p A c l) :
    Calls Try.prog 34 #[.pointer (some ⟨p, 0, none⟩), .int .i64 0, .int .i64 (l.length : Int)] w fun e w' => ∃ q : Nat, e = .returned (.tuple #[.pointer (some ⟨q, 0, none⟩), .int .i64 0]) ∧ w.heap.size ≤ q ∧
      w'.heap[q]? = some (.cells #[.slice A l.length c] 90 (0, 0)) ∧ Below w.heap.size w w' := by
  have HV := Aside0.mk h
  have HP := Aside0.mk (part0.calls p A c l)
  clear h
  go_enter Try.func34, Try.ntmps34
  go_wp2_with (first | (go_at_call 64; (with_reducible refine (HP.out _ HV.out).mono ?_); rintro e w1 ⟨rfl, hw⟩; have HW := Aside0.mk hw; clear hw))
  go_ret2
  have hw := HW.out
  subst hw
  have hbk := heap_alloc_new w1 (.cells #[.slice A l.length c] 90 (0, 0))
  exact ⟨_, rfl, Nat.le_refl _, hbk, (Below.refl _ _).alloc (Nat.le_refl _) _⟩
/-- The two views and what they look at are as they were. -/
structure Keep (w wr : World) (wa wb p q c : Nat) (A : Option Addr) (l : List Int) : Prop where
  bel : Below w.heap.size w wr
  row : Kd.V (Kd.int .u8) 5 wr w.heap.size (fun k => wa ≤ k ∧ k < wb ∧ k ≠ p) (.slice A l.length c) l
  bp : wr.heap[p]? = some (.cells #[.slice A l.length c] 90 (0, 0))
  bq : wr.heap[q]? = some (.cells #[.slice A l.length c] 90 (0, 0))
section
variable {w wr : World} {wa wb p q c : Nat} {A : Option Addr} {l : List Int}
theorem Keep.vp (h : Keep w wr wa wb p q c A l) : View wr p A c l := ⟨h.bp, (Kd.V_reads' h.row).2.2, (Kd.V_reads' h.row).2.1⟩
theorem Keep.vq (h : Keep w wr wa wb p q c A l) : View wr q A c l := ⟨h.bq, (Kd.V_reads' h.row).2.2, (Kd.V_reads' h.row).2.1⟩
theorem Keep.below (h : Keep w wr wa wb p q c A l) {w2 : World} (hb : Below wr.heap.size wr w2) : Keep w w2 wa wb p q c A l :=
  ⟨below_step h.bel hb, Kd.V_below h.row hb, blk_below h.bp hb, blk_below h.bq hb⟩
theorem Keep.drewN (h : Keep w wr wa wb p q c A l) (m : Nat) : Keep w (wr.drewN m) wa wb p q c A l := h.below (pw_below_drewN (Below.refl _ _) m)
theorem Keep.set (h : Keep w wr wa wb p q c A l) {g : Nat} (hg : w.heap.size ≤ g) (h1 : g < wa ∨ wb ≤ g) (h2 : p ≠ g) (h3 : q ≠ g) (i : Nat) (v : Value) : Keep w (wr.setCell ⟨g, i, none⟩ v) wa wb p q c A l :=
  ⟨h.bel.setCell hg _, Kd.V_far h.row (fun k hk => by show k ≠ g; omega) v, blk_far h.bp h2 _, blk_far h.bq h3 _⟩
theorem Keep.grown (h : Keep w wr wa wb p q c A l) {w3 : World} {row : Option Nat} (hb : Below w.heap.size w w3) (hg : wr.grownBy w3 row) (hr : ∀ k, row = some k → wb ≤ k ∧ k ≠ q) (hp : p < wb) : Keep w w3 wa wb p q c A l :=
  ⟨hb, Kd.V_grown h.row hg (fun k hk he => by have := hr k he.symm; omega), blk_grown h.bp hg (fun he => by have := hr p he.symm; omega), blk_grown h.bq hg (fun he => by have := hr q he.symm; omega)⟩
theorem Keep.qlt (h : Keep w wr wa wb p q c A l) : q < wr.heap.size := blk_lt h.bq
end
set_option maxRecDepth 100000 in
set_option maxHeartbeats 8000000 in
theorem law2.calls (A0 : Option Addr) (c0 : Nat) (l : List Int) (w : World) (hr0 : Kd.C (Kd.int .u8) w A0 l.length l) (hc0 : l.length ≤ c0) (hl : l.length ≤ 140737488351232) (hb : ∀ z ∈ l, 0 ≤ z ∧ z ≤ 255) :
    Calls Try.prog 5 #[.slice A0 l.length c0] w fun e w' => e = .returned (.bool true) ∧ Below w.heap.size w w' := by
  have hnil : ∀ (p : Nat) (W : World), (binOp BinOp.eql 28 (.pointer (some ⟨p, 0, none⟩)) (.pointer none)).run Try.prog W = .ok (.bool false) W := fun _ _ => by kernel_rfl
  have HR0 := Aside0.mk hr0
  have HC0 := Aside0.mk hc0
  have LM := Aside0.mk hl
  have HN := Aside0.mk (fun A0 c0 W hr hc => peek_New.calls A0 c0 l W hr hc (by omega))
  have HBy := Aside0.mk (fun p A c W h => peek_Bytes.calls p A c l W h (by omega))
  have HCt := Aside0.mk (fun p A c W h => cut0.calls p A c l W h)
  have HSm : serifref02_Same.f l l = some true := by unfold serifref02_Same.f; rw [beq_self_eq_true]
  have SM := Aside0.mk HSm
  have LMA : Aside0 (([] : List Int).length + l.length < 140737488355328) := ⟨by simp only [List.length_nil]; omega⟩
  clear HSm hr0 hc0 hl hb
  have HB := Aside0.mk (Below.refl w.heap.size w)
  go_enter Try.func5, Try.ntmps5
  go_wp2_with (first | (go_at_call 19; (with_reducible refine (alive.calls _).mono ?_); rintro e w1 ⟨rfl, hb⟩; have HBn := Aside0.mk (below_step HB.out hb); clear HB hb; have HB := HBn; clear HBn) | ((with_reducible refine gate_dst (N := 15) rfl ?_); refine Kd.R_lit (Kd.int .u8) _ 5 ?hg (N := 15) ?hd (xs := ([] : List Int)) (inner := []) (ok := fun _ => True) (okp := fun _ => True) ?hr ?hp (fun _ hk => hk) trivial (Below.refl _ _) (Nat.le_refl _) (by simp) ?_; (case hd => rfl); (case hg => rfl); (case hr => first | (go_simp; done) | (go_simp; rfl)); (case hp => exact (Reps.none _ _)); intro v2 w2 ho2 hb2 hg_ hnew_; clear hg_ hnew_; have HO := Aside0.mk (Kd.R_lower ho2 (below_size HB.out)); have HBn := Aside0.mk (below_step HB.out hb2); clear HB ho2 hb2; have HB := HBn; clear HBn) | ((with_reducible refine gate_builtin (b := .append) (xs := #[.tmp 15, .tmp 16]) rfl ?_); at_builtin; refine Kd.R_append_rows (Kd.int .u8) (w0 := w) w.heap.size rfl (.tmp 15) (.tmp 16) 22 5 (.int .u8 0) 1 rfl Try.underlying22 infoU8 rfl (by decide) (by omega) v2 ([] : List Int) l _ _ _ (fun _ => True) (fun _ => False) rfl rfl HO.out (Kd.C_below HR0.out HB.out) (fun _ _ h => h) (fun _ h => h.elim) (fun _ _ => trivial) HB.out (below_size HB.out) (by have := LMA.out; omega) ?_; intro v3 w3 ho hb hg hat; obtain ⟨A3, c3, ev3⟩ := Kd.R_slice ho; subst ev3; have HO3 := Aside0.mk (Kd.R_mono (Kd.R_bound ho) (fun k hk => (⟨hk.2.1, hk.2.2.1⟩ : w.heap.size ≤ k ∧ k < w3.heap.size))); have HBn := Aside0.mk hb; have HZ3 := Aside0.mk (below_size hb); clear HB HO ho hb hg hat; have HB := HBn; clear HBn) | (go_at_call 20; (refine (HN.out A3 c3 _ (Kd.R_reads' HO3.out).2.2 (Kd.R_reads' HO3.out).2.1).mono ?_); rintro e w4 ⟨p, A, c, rfl, hp1, hp2, hblk, hrow, hbel⟩; have HW := Aside0.mk (Kd.R_V (base' := w.heap.size) (Kd.R_mono (Kd.R_bound hrow) (fun k hk => (⟨hk.2.1, hk.2.2.1, hk.1⟩ : w3.heap.size ≤ k ∧ k < w4.heap.size ∧ k ≠ p)))); have HP := Aside0.mk hblk; have HP1 := Aside0.mk hp1; have HP2 := Aside0.mk hp2; have HO3n := Aside0.mk (Kd.R_below HO3.out hbel); have HBn := Aside0.mk (below_step HB.out hbel); have HV := Aside0.mk (View.mk hblk (Kd.R_reads' hrow).2.2 (Kd.R_reads' hrow).2.1); clear hblk hrow hbel HB HO3 hp1 hp2; have HB := HBn; have HO3 := HO3n; clear HBn HO3n) | (go_at_call 23; (with_reducible refine (HBy.out p A c _ HV.out).mono ?_); rintro e w5 ⟨v5, rfl, ho5, hb5⟩; obtain ⟨A5, c5, ev5⟩ := Kd.R_slice ho5; subst ev5; have HZ5 := Aside0.mk hb5.size; have HO5 := Aside0.mk (Kd.R_lower (Kd.R_mono (Kd.R_bound ho5) (fun k hk => (⟨hk.2.1, hk.2.2.1⟩ : w4.heap.size ≤ k ∧ k < w5.heap.size))) (below_size HB.out)); have HVn := Aside0.mk (HV.out.below hb5); have HWn := Aside0.mk (Kd.V_below HW.out hb5); have HPn := Aside0.mk (blk_below HP.out hb5); have HO3n := Aside0.mk (Kd.R_below HO3.out hb5); have HBn := Aside0.mk (below_step HB.out hb5); clear HV HB HW HP HO3 ho5 hb5; have HV := HVn; have HB := HBn; have HW := HWn; have HP := HPn; have HO3 := HO3n; clear HVn HBn HWn HPn HO3n) | (go_at_call 34; (with_reducible refine (HCt.out p A c _ HV.out).mono ?_); rintro e w6 ⟨q, rfl, hq1, hblk, hb6⟩; have HQ1 := Aside0.mk hq1; have HK := Aside0.mk (Keep.mk (below_step HB.out hb6) (Kd.V_below HW.out hb6) (blk_below HP.out hb6) hblk : Keep w w6 w3.heap.size w4.heap.size p q c A l); have HO5n := Aside0.mk (Kd.R_below HO5.out hb6); have HO3n := Aside0.mk (Kd.R_below HO3.out hb6); clear HV HB HW HP HO3 HO5 hq1 hblk hb6; have HO3 := HO3n; have HO5 := HO5n; clear HO3n HO5n))
  clear HN LMA
  generalize hwa_ : w3.heap.size = wa at *
  generalize hwb_ : w4.heap.size = wb at *
  generalize hwc_ : w5.heap.size = wc at *
  clear hwa_ hwb_ hwc_
  go_loopw [39] (fun s wr => ∃ (i : Nat) (x : List Int), s = .int .i64 i ∧ Aside0 (x.length = l.length) ∧ Aside0 (Kd.R (Kd.int .u8) 5 wr w.heap.size (fun k => w.heap.size ≤ k ∧ k < wa) (.slice A3 x.length c3) x) ∧ Aside0 (Keep w wr wa wb p q c A l) ∧ Aside0 (Kd.R (Kd.int .u8) 5 wr w.heap.size (fun k => wb ≤ k ∧ k < wc) (.slice A5 l.length c5) l)) (fun s _ => l.length - (intOf s).toNat)
  case atStart => exact ⟨0, _, rfl, ⟨rfl⟩, HO3, HK, HO5⟩
  case round =>
    clear HO3 HK HO5
    obtain ⟨i, x, rfl, HX, HO, HK, HO5⟩ := hrel
    by_cases hlt : i < l.length
    · have hltb : decide ((i : Int) < (l.length : Int)) = true := decide_eq_true (by omega)
      obtain ⟨ad, eA, _⟩ := Kd.at_int (Kd.R_reads' HO.out).2.2 (i : Int) (by omega) (by rw [HX.out]; omega)
      subst eA
      obtain ⟨g, rfl⟩ := Kd.R_head HO.out
      obtain ⟨hcell, hfrz⟩ := Kd.R_cell (enc := Value.int .u8) (h1 := fun _ => rfl) (0 : Int) HO.out (i : Int) (by omega) (by rw [HX.out]; omega)
      rw [Int.toNat_natCast] at hcell hfrz
      have p1 := eq_true (show 0 ≤ (i : Int) by omega)
      have q1 := eq_true (show (i : Int) < (l.length : Int) by omega)
      have HT := Aside0.mk hlt
      clear hlt
      go_wp2
      have hw1 : wrap64 ((i : Int) + 1) = ((i + 1 : Nat) : Int) := by
        have := LM.out
        have := HT.out
        unfold wrap64
        omega
      rw [hw1]
      clear hw1
      have hgg : w.heap.size ≤ g ∧ g < wa := HO.out.1 g (by simp [Value.ownBlock])
      have hgb := Kd.R_base HO.out g (by simp [Value.ownBlock])
      have n1 := HP1.out; have n2 := HP2.out; have n3 := HZ5.out; have n4 := HQ1.out; have n5 := HZ3.out
      have put := fun V : Int => (Kd.R_put (enc := Value.int .u8) (h1 := fun _ => rfl) HO.out (i : Int) V).1
      simp only [Int.toNat_natCast] at put
      refine ⟨⟨i + 1, x.set i (bits BinOp.xor IntKind.u8 (rdOf (0 : Int) x (i : Int)) 255), rfl, ⟨by rw [List.length_set]; exact HX.out⟩, ⟨by rw [List.length_set]; exact put (bits BinOp.xor IntKind.u8 (rdOf (0 : Int) x (i : Int)) 255)⟩, ⟨HK.out.set hgb (.inl hgg.2) (by omega) (by omega) i _⟩, ⟨Kd.R_far HO5.out (p := ⟨g, i, none⟩) (fun k hk => by show k ≠ g; omega) _⟩⟩, ?_⟩
      have := HT.out
      simp only [intOf]
      omega
    · have hltb : decide ((i : Int) < (l.length : Int)) = false := decide_eq_false (by omega)
      clear HO HX
      go_wp2
      go_loopw [51] (fun s wr => ∃ (i : Nat) (x : List Int), s = .int .i64 i ∧ Aside0 (x.length = l.length) ∧ Aside0 (Kd.R (Kd.int .u8) 5 wr w.heap.size (fun k => wb ≤ k ∧ k < wc) (.slice A5 x.length c5) x) ∧ Aside0 (Keep w wr wa wb p q c A l)) (fun s _ => l.length - (intOf s).toNat)
      case atStart => exact ⟨0, _, rfl, ⟨rfl⟩, HO5, HK⟩
      case round =>
        clear HO5 HK 
        obtain ⟨i, x, rfl, HX, HO, HK⟩ := hrel
        by_cases hlt : i < l.length
        · have hltb : decide ((i : Int) < (l.length : Int)) = true := decide_eq_true (by omega)
          obtain ⟨ad, eA, _⟩ := Kd.at_int (Kd.R_reads' HO.out).2.2 (i : Int) (by omega) (by rw [HX.out]; omega)
          subst eA
          obtain ⟨g, rfl⟩ := Kd.R_head HO.out
          obtain ⟨hcell, hfrz⟩ := Kd.R_cell (enc := Value.int .u8) (h1 := fun _ => rfl) (0 : Int) HO.out (i : Int) (by omega) (by rw [HX.out]; omega)
          rw [Int.toNat_natCast] at hcell hfrz
          have p1 := eq_true (show 0 ≤ (i : Int) by omega)
          have q1 := eq_true (show (i : Int) < (l.length : Int) by omega)
          have HT := Aside0.mk hlt
          clear hlt
          go_wp2
          have hw1 : wrap64 ((i : Int) + 1) = ((i + 1 : Nat) : Int) := by
            have := LM.out
            have := HT.out
            unfold wrap64
            omega
          rw [hw1]
          clear hw1
          have hgg : wb ≤ g ∧ g < wc := HO.out.1 g (by simp [Value.ownBlock])
          have hgb := Kd.R_base HO.out g (by simp [Value.ownBlock])
          have n1 := HP1.out; have n2 := HP2.out; have n3 := HZ5.out; have n4 := HQ1.out; have n5 := HZ3.out
          have put := fun V : Int => (Kd.R_put (enc := Value.int .u8) (h1 := fun _ => rfl) HO.out (i : Int) V).1
          simp only [Int.toNat_natCast] at put
          refine ⟨⟨i + 1, x.set i (bits BinOp.xor IntKind.u8 (rdOf (0 : Int) x (i : Int)) 170), rfl, ⟨by rw [List.length_set]; exact HX.out⟩, ⟨by rw [List.length_set]; exact put (bits BinOp.xor IntKind.u8 (rdOf (0 : Int) x (i : Int)) 170)⟩, ⟨HK.out.set hgb (.inr hgg.1) (by omega) (by omega) i _⟩⟩, ?_⟩
          have := HT.out
          simp only [intOf]
          omega
        · have hltb : decide ((i : Int) < (l.length : Int)) = false := decide_eq_false (by omega)
          have HO3 := Aside0.mk (Kd.R_mono HO.out (fun k hk => (⟨hk.1, by have := HQ1.out; omega⟩ : wb ≤ k ∧ k ≠ q)))
          clear HO
          go_wp2
          go_loopw [10, 5] (fun s t wr => ∃ (i : Nat) (v : Value) (x : List Int), s = .int .i64 i ∧ v = t ∧ Aside0 (i ≤ 9) ∧ Aside0 (x.length = l.length + i) ∧ Aside0 (Kd.R (Kd.int .u8) 5 wr w.heap.size (fun k => wb ≤ k ∧ k ≠ q) v x) ∧ Aside0 (Keep w wr wa wb p q c A l)) (fun s _ _ => 9 - (intOf s).toNat)
          case atStart => exact ⟨0, _, x, rfl, rfl, ⟨by decide⟩, HX, ⟨HX.out ▸ HO3.out⟩, HK⟩
          case round =>
            clear HO3 HK HX
            obtain ⟨i, v, x, rfl, rfl, HI9, HX, HO, HK⟩ := hrel
            by_cases hlt : i < 9
            · have hltb : decide ((i : Int) < 9) = true := decide_eq_true (by omega)
              have HT := Aside0.mk hlt
              clear hlt
              go_wp2_with (first | ((with_reducible refine gate_dst (N := 66) rfl ?_); refine Kd.R_lit (Kd.int .u8) _ 5 ?hg (N := 66) ?hd (xs := ([1] : List Int)) (inner := [.int .u8 1]) (ok := fun _ => True) (okp := fun _ => True) ?hr ?hp (fun _ hk => hk) trivial (Below.refl _ _) (Nat.le_refl _) (by simp) ?_; (case hd => rfl); (case hg => rfl); (case hr => first | (go_simp; done) | (go_simp; rfl)); (case hp => exact (Reps.one (show Kd.M (Kd.int .u8) _ _ _ 1 [.int .u8 1] from rfl) (Reps.none _ _))); intro v6 w6 ho6 hb6 hg_ hnew_; clear hg_ hnew_; obtain ⟨A6, c6, ev6⟩ := Kd.R_slice ho6; subst ev6; have HL6 := Aside0.mk ho6; have HOn := Aside0.mk (Kd.R_below HO.out hb6); have HKn := Aside0.mk (HK.out.below hb6); clear HO HK ho6 hb6; have HO := HOn; have HK := HKn; clear HOn HKn) | ((with_reducible refine gate_builtin (b := .append) (xs := #[.tmp 65, .tmp 66]) rfl ?_); at_builtin; refine Kd.R_append_rows (Kd.int .u8) (w0 := w) w.heap.size rfl (.tmp 65) (.tmp 66) 22 5 (.int .u8 0) 1 rfl Try.underlying22 infoU8 rfl (by decide) (by omega) v x ([1] : List Int) _ _ _ (fun k => wb ≤ k ∧ k ≠ q) (fun _ => False) rfl rfl HO.out (Kd.R_reads' HL6.out).2.2 (fun _ _ h => h) (fun _ h => h.elim) (fun k hk => ⟨by have := HK.out.qlt; have := HZ5.out; have := HQ1.out; omega, by have := HK.out.qlt; omega⟩) HK.out.bel HK.out.bel.size (by have := HX.out; have := HI9.out; have := LM.out; first | omega | (simp only [List.length_singleton]; omega)) ?_; intro v8 w8 ho hb hg hat; have HOn := Aside0.mk ho; have HKn := Aside0.mk (HK.out.grown hb hg (fun k hk => HO.out.1 k hk) HP2.out); clear HO HK HL6 ho hb hg hat; have HO := HOn; have HK := HKn; clear HOn HKn))
              have hw1 : wrap64 ((i : Int) + 1) = ((i + 1 : Nat) : Int) := by
                have := HT.out
                unfold wrap64
                omega
              rw [hw1]
              refine ⟨⟨i + 1, _, _, rfl, rfl, ⟨HT.out⟩, ⟨by rw [List.length_append, HX.out]; rfl⟩, HO, HK⟩, ?_⟩
              have := HT.out
              simp only [intOf]
              omega
            · have hltb : decide ((i : Int) < 9) = false := decide_eq_false (by omega)
              clear HO HX
              go_wp2_with (first | (go_at_call 23; (with_reducible refine (HBy.out q A c _ HK.out.vq).mono ?_); rintro e w7 ⟨v7, rfl, ho, hb⟩; obtain ⟨A7, c7, ev⟩ := Kd.R_slice ho; subst ev; have HO7 := Aside0.mk (Kd.R_lower (Kd.R_mono (Kd.R_bound ho) (fun k hk => (⟨by have := HK.out.qlt; have := hk.2.1; have := HZ5.out; have := HQ1.out; omega, by have := HK.out.qlt; have := hk.2.1; omega⟩ : wb ≤ k ∧ k ≠ q))) HK.out.bel.size); have HKn := Aside0.mk (HK.out.below hb); clear HK hb ho; have HK := HKn; clear HKn))
              go_loopw [72] (fun s wr => ∃ (i : Nat) (x : List Int), s = .int .i64 i ∧ Aside0 (x.length = l.length) ∧ Aside0 (Kd.R (Kd.int .u8) 5 wr w.heap.size (fun k => wb ≤ k ∧ k ≠ q) (.slice A7 x.length c7) x) ∧ Aside0 (Keep w wr wa wb p q c A l)) (fun s _ => l.length - (intOf s).toNat)
              case atStart => exact ⟨0, _, rfl, ⟨rfl⟩, HO7, HK⟩
              case round =>
                clear HO7 HK 
                obtain ⟨i, x, rfl, HX, HO, HK⟩ := hrel
                by_cases hlt : i < l.length
                · have hltb : decide ((i : Int) < (l.length : Int)) = true := decide_eq_true (by omega)
                  obtain ⟨ad, eA, _⟩ := Kd.at_int (Kd.R_reads' HO.out).2.2 (i : Int) (by omega) (by rw [HX.out]; omega)
                  subst eA
                  obtain ⟨g, rfl⟩ := Kd.R_head HO.out
                  obtain ⟨hcell, hfrz⟩ := Kd.R_cell (enc := Value.int .u8) (h1 := fun _ => rfl) (0 : Int) HO.out (i : Int) (by omega) (by rw [HX.out]; omega)
                  rw [Int.toNat_natCast] at hcell hfrz
                  have p1 := eq_true (show 0 ≤ (i : Int) by omega)
                  have q1 := eq_true (show (i : Int) < (l.length : Int) by omega)
                  have HT := Aside0.mk hlt
                  clear hlt
                  go_wp2
                  have hw1 : wrap64 ((i : Int) + 1) = ((i + 1 : Nat) : Int) := by
                    have := LM.out
                    have := HT.out
                    unfold wrap64
                    omega
                  rw [hw1]
                  clear hw1
                  have hgg : wb ≤ g ∧ g ≠ q := HO.out.1 g (by simp [Value.ownBlock])
                  have hgb := Kd.R_base HO.out g (by simp [Value.ownBlock])
                  have n1 := HP1.out; have n2 := HP2.out; have n3 := HZ5.out; have n4 := HQ1.out; have n5 := HZ3.out
                  have put := fun V : Int => (Kd.R_put (enc := Value.int .u8) (h1 := fun _ => rfl) HO.out (i : Int) V).1
                  simp only [Int.toNat_natCast] at put
                  refine ⟨⟨i + 1, x.set i 7, rfl, ⟨by rw [List.length_set]; exact HX.out⟩, ⟨by rw [List.length_set]; exact put 7⟩, ⟨HK.out.set hgb (.inr hgg.1) (by omega) (by omega) i _⟩⟩, ?_⟩
                  have := HT.out
                  simp only [intOf]
                  omega
                · have hltb : decide ((i : Int) < (l.length : Int)) = false := decide_eq_false (by omega)
                  clear HO HX
                  go_wp2_with (first | (go_at_call 23; (with_reducible refine (HBy.out p A c _ HK.out.vp).mono ?_); rintro e w8 ⟨v8, rfl, ho, hb⟩; obtain ⟨A8, c8, ev⟩ := Kd.R_slice ho; subst ev; have HO8 := Aside0.mk ho; have HKn := Aside0.mk (HK.out.below hb); clear HK hb ho; have HK := HKn; clear HKn) | (go_at_call 22; (with_reducible refine (serifref02_Same.calls A8 c8 l A0 c0 l true _ (Kd.R_reads' HO8.out).2.2 (Kd.R_reads' HO8.out).2.1 (Kd.C_below HR0.out HK.out.bel) HC0.out SM.out).mono ?_); rintro e w' ⟨rfl, ⟨nd, rfl⟩⟩; have HKn := Aside0.mk (HK.out.drewN nd); clear HK; generalize World.drewN _ nd = wz at HKn ⊢; have HK := HKn; clear HKn) | (go_at_call 23; (with_reducible refine (HBy.out q A c _ HK.out.vq).mono ?_); rintro e w9 ⟨v9, rfl, ho, hb⟩; obtain ⟨A9, c9, ev⟩ := Kd.R_slice ho; subst ev; have HO9 := Aside0.mk ho; have HKn := Aside0.mk (HK.out.below hb); clear HK hb ho; have HK := HKn; clear HKn) | (go_at_call 22; (with_reducible refine (serifref02_Same.calls A9 c9 l A0 c0 l true _ (Kd.R_reads' HO9.out).2.2 (Kd.R_reads' HO9.out).2.1 (Kd.C_below HR0.out HK.out.bel) HC0.out SM.out).mono ?_); rintro e w' ⟨rfl, ⟨nd, rfl⟩⟩; have HKn := Aside0.mk (HK.out.drewN nd); clear HK; generalize World.drewN _ nd = wz at HKn ⊢; have HK := HKn; clear HKn))
                  go_ret
                  exact ⟨rfl, HK.out.bel⟩
end Go.Proofs.Ytplnaannfnhhgaa.K
