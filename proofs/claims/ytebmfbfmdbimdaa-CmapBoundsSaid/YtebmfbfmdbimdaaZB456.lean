/- Package cmap, whatever the bytes: the closures that read a group (CmapBounds): forms 0, 6. Package cmap, whatever the bytes: the closures of the selectors' groups (CmapBounds). Package cmap, whatever the bytes: how many groups a selector has (CmapBounds). -/
import Derived.Test.YtebmfbfmdbimdaaZCmapB2
namespace Go.Proofs.Ytebmfbfmdbimdaa.F
open Go.RowKit Go.Proofs.YtebmfbfmdbimdaaW.PrintWords Go.Proofs.YtebmfbfmdbimdaaW.PrintLast Go.Proofs.YtebmfbfmdbimdaaW.PrintMore Go.Proofs.Ytebmfbfmdbimdaa.rowQ
set_option linter.unusedVariables false
set_option linter.unusedSimpArgs false
set_option maxRecDepth 100000 in
set_option maxHeartbeats 1000000 in
theorem sub1_any (w : World) (b : Nat) (A : Option Addr) (c : Nat) (l : List Int) (i : Nat) (hc : w.cell? ⟨b, 0, none⟩ = some (.slice A l.length c)) (hR : Kd.C (Kd.int .u8) w A l.length l) (hb : ∀ z ∈ l, 0 ≤ z ∧ z ≤ 255) (hi : i < l.length) (hl : l.length < 140737488355328) :
    Calls Try.prog 68 (#[.int .i64 i] ++ #[.pointer (some ⟨b, 0, none⟩)]) w fun e w' => ((∃ x0 x4 x8 x9 : Int, e = .returned (.agg #[.int .i64 x0, .int .i64 x4, .int .i64 x8, .int .i64 x9]) ∧ Gz [x0, x4, x8, x9]) ∨ Thr e) ∧ Below w.heap.size w w' := by
  obtain ⟨ad, rfl, hx⟩ := Kd.at_int hR (i : Int) (by omega) (by omega)
  rw [Int.toNat_natCast] at hx
  have hmem : rd l (i : Int) ∈ l := by
    unfold rd
    rw [Int.toNat_natCast, List.getD_eq_getElem?_getD, List.getElem?_eq_getElem hi]
    exact List.getElem_mem hi
  have hz := hb _ hmem
  generalize rd l (i : Int) = y at *
  have hw : wrap64 y = y := by unfold wrap64; omega
  have p0 : (0 : Int) ≤ i := by omega
  have p1 : (i : Int) < l.length := by omega
  have h3 := blk_new w (.cells #[.int .i64 0, .int .i64 0, .int .i64 0, .int .i64 0] 95)
  have hbw := below_alloc (Below.refl w.heap.size w) (.cells #[.int .i64 0, .int .i64 0, .int .i64 0, .int .i64 0] 95)
  have hc1 := pw_cell_below hbw hc
  have hx1 := pw_cell_below hbw hx
  have HW := Aside0.mk hw
  have HZ := Aside0.mk hz
  have HB := Aside0.mk hbw
  have H3 := Aside0.mk h3
  clear hR hb hmem hc hx hz hbw h3
  go_enter Try.func68, Try.ntmps68
  go_wp2
  have hb4 := blk_new w (.cells #[.int .i64 i, .int .i64 i, .int .i64 y, .int .i64 0] 95)
  have q0 := (blk_cell hb4 0).trans rfl
  have q1 := (blk_cell hb4 1).trans rfl
  have q2 := (blk_cell hb4 2).trans rfl
  have q3 := (blk_cell hb4 3).trans rfl
  have hz := HZ.out
  refine bodyPost_ret (v := .agg #[.int .i64 i, .int .i64 i, .int .i64 y, .int .i64 0]) (by simp [results, Try.results68, go_sem, q0, q1, q2, q3]) rfl ⟨.inl ⟨i, i, y, 0, rfl, rfl, ?_, ?_, ?_, .inl rfl⟩, below_alloc (Below.refl _ _) _⟩
  · show (0 : Int) ≤ i
    omega
  · show (0 : Int) ≤ y
    omega
  · show y ≤ 4294967296
    omega
set_option maxRecDepth 100000 in
set_option maxHeartbeats 1000000 in
theorem sub2_any (w : World) (b1 b2 : Nat) (A : Option Addr) (c : Nat) (l : List Int) (i : Nat) (x : Int) (hx : w.cell? ⟨b1, 0, none⟩ = some (.int .i64 x)) (hc : w.cell? ⟨b2, 0, none⟩ = some (.slice A l.length c)) (hR : Kd.C (Kd.int .i64) w A l.length l) (hb : ∀ z ∈ l, 0 ≤ z ∧ z ≤ 65535) (hx0 : 0 ≤ x ∧ x ≤ 65535) (hi : i < l.length) (hl : l.length < 140737488355328) :
    Calls Try.prog 71 (#[.int .i64 i] ++ #[.pointer (some ⟨b1, 0, none⟩), .pointer (some ⟨b2, 0, none⟩)]) w fun e w' => ((∃ x0 x4 x8 x9 : Int, e = .returned (.agg #[.int .i64 x0, .int .i64 x4, .int .i64 x8, .int .i64 x9]) ∧ Gz [x0, x4, x8, x9]) ∨ Thr e) ∧ Below w.heap.size w w' := by
  obtain ⟨ad, rfl, hy⟩ := Kd.at_int hR (i : Int) (by omega) (by omega)
  rw [Int.toNat_natCast] at hy
  have hmem : rd l (i : Int) ∈ l := by
    unfold rd
    rw [Int.toNat_natCast, List.getD_eq_getElem?_getD, List.getElem?_eq_getElem hi]
    exact List.getElem_mem hi
  have hz := hb _ hmem
  generalize rd l (i : Int) = y at *
  have hw : wrap64 (x + i) = x + i := by unfold wrap64; omega
  have p0 : (0 : Int) ≤ i := by omega
  have p1 : (i : Int) < l.length := by omega
  have h3 := blk_new w (.cells #[.int .i64 0, .int .i64 0, .int .i64 0, .int .i64 0] 95)
  have hbw := below_alloc (Below.refl w.heap.size w) (.cells #[.int .i64 0, .int .i64 0, .int .i64 0, .int .i64 0] 95)
  have hc1 := pw_cell_below hbw hc
  have hx1 := pw_cell_below hbw hx
  have hy1 := pw_cell_below hbw hy
  have HZ := Aside0.mk hz
  have HX := Aside0.mk hx0
  have HB := Aside0.mk hbw
  have H3 := Aside0.mk h3
  clear hR hb hmem hc hx hy hz hx0 hbw h3
  go_enter Try.func71, Try.ntmps71
  go_wp2
  have h3 := H3.out
  obtain ⟨b0, hb0⟩ : ∃ b0, b0 = w.heap.size := ⟨_, rfl⟩
  have HB0 : Aside0 (w.heap.size ≤ b0) := ⟨by omega⟩
  rw [← hb0] at h3 ⊢
  generalize w.alloc (.cells #[.int .i64 0, .int .i64 0, .int .i64 0, .int .i64 0] 95) = w1 at *
  clear hb0 H3
  have z0 := (blk_cell h3 0).trans rfl
  have z1 := (blk_cell h3 1).trans rfl
  have z2 := (blk_cell h3 2).trans rfl
  have z3 := (blk_cell h3 3).trans rfl
  have f0 := blk_frozen h3 0
  have f1 := blk_frozen h3 1
  have f2 := blk_frozen h3 2
  have f3 := blk_frozen h3 3
  have H3 := Aside0.mk h3
  clear h3
  go_region
  all_goals
    go_wp2
    have hb4 := blk_drew (blk_set (blk_set (blk_set (blk_set H3.out 0 (.int .i64 (x + i))) 1 (.int .i64 (x + i))) 2 (.int .i64 y)) 3 (.int .i64 0))
    have q0 := (blk_cell hb4 0).trans rfl
    have q1 := (blk_cell hb4 1).trans rfl
    have q2 := (blk_cell hb4 2).trans rfl
    have q3 := (blk_cell hb4 3).trans rfl
    have hz := HZ.out
    have hx := HX.out
    refine bodyPost_ret (v := .agg #[.int .i64 (x + i), .int .i64 (x + i), .int .i64 y, .int .i64 0]) (by simp [results, Try.results71, go_sem, q0, q1, q2, q3]) rfl ⟨.inl ⟨x + i, x + i, y, 0, rfl, rfl, ?_, ?_, ?_, .inl rfl⟩, below_drew (below_set (below_set (below_set (below_set HB.out HB0.out) HB0.out) HB0.out) HB0.out)⟩
    · show (0 : Int) ≤ x + i
      omega
    · show (0 : Int) ≤ y
      omega
    · show y ≤ 4294967296
      omega
end Go.Proofs.Ytebmfbfmdbimdaa.F
namespace Go.Proofs.Ytebmfbfmdbimdaa.F
open Go.RowKit Go.Proofs.YtebmfbfmdbimdaaW.PrintWords Go.Proofs.YtebmfbfmdbimdaaW.PrintLast Go.Proofs.YtebmfbfmdbimdaaW.PrintMore Go.Proofs.Ytebmfbfmdbimdaa.rowQ
set_option linter.unusedVariables false
set_option linter.unusedSimpArgs false
set_option maxRecDepth 100000 in
set_option maxHeartbeats 2000000 in
theorem var2_any (w w0 : World) (g b p : Nat) (A : Option Addr) (c : Nat) (l : List Int) (pl : Int) (i : Nat) (hr : Rd w0 g p A c l w) (hp : w.cell? ⟨b, 0, none⟩ = some (.int .i64 pl)) (hp0 : 0 ≤ pl ∧ pl < 4294967296) (hi : i < 4096) (hb : ∀ z ∈ l, 0 ≤ z ∧ z ≤ 255) :
    Calls Try.prog 76 (#[.int .i64 i] ++ #[.pointer (some ⟨g, 0, none⟩), .pointer (some ⟨b, 0, none⟩)]) w fun e w' => ((∃ x0 x4 x8 x9 : Int, e = .returned (.agg #[.int .i64 x0, .int .i64 x4, .int .i64 x8, .int .i64 x9]) ∧ Gz [x0, x4, x8, x9]) ∨ Thr e) ∧ Below w.heap.size w w' := by
  have hbw := below_alloc (Below.refl w.heap.size w) (.cells #[.int .i64 0, .int .i64 0, .int .i64 0, .int .i64 0] 95)
  have HC := Aside0.mk (fun (at_ : Int) W (hv : View W p A c l) => cu24_any p A c l at_ W hv hb)
  have HD := Aside0.mk (fun (at_ : Int) W (hv : View W p A c l) => cu8_any p A c l at_ W hv hb)
  have HN := Aside0.mk (fun at_ => num_bound (l := l) (at_ := at_) (n := 3) hb (by decide))
  have HM := Aside0.mk (fun at_ => num_bound (l := l) (at_ := at_) (n := 1) hb (by decide))
  have HR := Aside0.mk (hr.below hbw)
  have hc1 := HR.out.cell
  have hp1 := pw_cell_below hbw hp
  have h3 := Aside0.mk (blk_new w (.cells #[.int .i64 0, .int .i64 0, .int .i64 0, .int .i64 0] 95))
  have HB := Aside0.mk hbw
  have HP := Aside0.mk hp0
  clear hr hb hbw hp hp0
  go_enter Try.func76, Try.ntmps76
  go_wp2_with (first | (go_at_call 75; (refine (HC.out _ _ HR.out.view).mono ?_); rintro e w2 ⟨rfl | rfl, hb⟩ <;> (have HR2 := Aside0.mk (HR.out.below hb); have hc2 := HR2.out.cell; have hp2 := pw_cell_below hb hp1; have h32 := Aside0.mk (blk_below h3.out hb); have HB2 := Aside0.mk (below_then HB.out HB.out.size hb); clear hb)) | (go_at_call 77; (refine (HD.out _ _ HR2.out.view).mono ?_); rintro e w3 ⟨rfl | rfl, hb⟩ <;> (have h33 := Aside0.mk (blk_below h32.out hb); have z0 := blk_cell h33.out 0; have z1 := blk_cell h33.out 1; have z2 := blk_cell h33.out 2; have z3 := blk_cell h33.out 3; have f0 := blk_frozen h33.out 0; have f1 := blk_frozen h33.out 1; have f2 := blk_frozen h33.out 2; have f3 := blk_frozen h33.out 3; have HB3 := Aside0.mk (below_then HB2.out HB2.out.size hb); clear hb)))
  · have na := HN.out (wrap64 (wrap64 (pl + 4) + 4 * (i : Int)))
    have nb := HM.out (wrap64 (wrap64 (pl + 7) + 4 * (i : Int)))
    generalize num l (wrap64 (wrap64 (pl + 4) + 4 * (i : Int))) 3 = xa at *
    generalize num l (wrap64 (wrap64 (pl + 7) + 4 * (i : Int))) 1 = xb at *
    have hb4 := blk_set (blk_set (blk_set (blk_set h33.out 0 (.int .i64 (xa))) 1 (.int .i64 (wrap64 (xa + xb)))) 2 (.int .i64 (0))) 3 (.int .i64 (0))
    have q0 := (blk_cell hb4 0).trans rfl
    have q1 := (blk_cell hb4 1).trans rfl
    have q2 := (blk_cell hb4 2).trans rfl
    have q3 := (blk_cell hb4 3).trans rfl
    refine bodyPost_ret (v := .agg #[.int .i64 (xa), .int .i64 (wrap64 (xa + xb)), .int .i64 (0), .int .i64 (0)]) (by simp [results, Try.results76, go_sem, q0, q1, q2, q3]) rfl ⟨.inl ⟨xa, wrap64 (xa + xb), 0, 0, rfl, rfl, ?_, ?_, ?_, .inl rfl⟩, below_set (below_set (below_set (below_set HB3.out (Nat.le_refl _)) (Nat.le_refl _)) (Nat.le_refl _)) (Nat.le_refl _)⟩
    · show (0 : Int) ≤ xa
      omega
    · show (0 : Int) ≤ 0
      omega
    · show (0 : Int) ≤ 4294967296
      omega
  · exact ⟨rfl, .inr ⟨51, by decide, rfl⟩, HB3.out⟩
  · exact ⟨rfl, .inr ⟨51, by decide, rfl⟩, HB2.out⟩
set_option maxRecDepth 100000 in
set_option maxHeartbeats 2000000 in
theorem var3_any (w w0 : World) (g b p : Nat) (A : Option Addr) (c : Nat) (l : List Int) (pl : Int) (i : Nat) (hr : Rd w0 g p A c l w) (hp : w.cell? ⟨b, 0, none⟩ = some (.int .i64 pl)) (hp0 : 0 ≤ pl ∧ pl < 4294967296) (hi : i < 4096) (hb : ∀ z ∈ l, 0 ≤ z ∧ z ≤ 255) :
    Calls Try.prog 78 (#[.int .i64 i] ++ #[.pointer (some ⟨g, 0, none⟩), .pointer (some ⟨b, 0, none⟩)]) w fun e w' => ((∃ x0 x4 x8 x9 : Int, e = .returned (.agg #[.int .i64 x0, .int .i64 x4, .int .i64 x8, .int .i64 x9]) ∧ Gz [x0, x4, x8, x9]) ∨ Thr e) ∧ Below w.heap.size w w' := by
  have hbw := below_alloc (Below.refl w.heap.size w) (.cells #[.int .i64 0, .int .i64 0, .int .i64 0, .int .i64 0] 95)
  have HC := Aside0.mk (fun (at_ : Int) W (hv : View W p A c l) => cu24_any p A c l at_ W hv hb)
  have HD := Aside0.mk (fun (at_ : Int) W (hv : View W p A c l) => cu16_any p A c l at_ W hv hb)
  have HN := Aside0.mk (fun at_ => num_bound (l := l) (at_ := at_) (n := 3) hb (by decide))
  have HM := Aside0.mk (fun at_ => num_bound (l := l) (at_ := at_) (n := 2) hb (by decide))
  have HR := Aside0.mk (hr.below hbw)
  have hc1 := HR.out.cell
  have hp1 := pw_cell_below hbw hp
  have h3 := Aside0.mk (blk_new w (.cells #[.int .i64 0, .int .i64 0, .int .i64 0, .int .i64 0] 95))
  have HB := Aside0.mk hbw
  have HP := Aside0.mk hp0
  clear hr hb hbw hp hp0
  go_enter Try.func78, Try.ntmps78
  go_wp2_with (first | (go_at_call 75; (refine (HC.out _ _ HR.out.view).mono ?_); rintro e w2 ⟨rfl | rfl, hb⟩ <;> (have HR2 := Aside0.mk (HR.out.below hb); have hc2 := HR2.out.cell; have hp2 := pw_cell_below hb hp1; have h32 := Aside0.mk (blk_below h3.out hb); have HB2 := Aside0.mk (below_then HB.out HB.out.size hb); clear hb)) | (go_at_call 61; (refine (HD.out _ _ HR2.out.view).mono ?_); rintro e w3 ⟨rfl | rfl, hb⟩ <;> (have h33 := Aside0.mk (blk_below h32.out hb); have z0 := blk_cell h33.out 0; have z1 := blk_cell h33.out 1; have z2 := blk_cell h33.out 2; have z3 := blk_cell h33.out 3; have f0 := blk_frozen h33.out 0; have f1 := blk_frozen h33.out 1; have f2 := blk_frozen h33.out 2; have f3 := blk_frozen h33.out 3; have HB3 := Aside0.mk (below_then HB2.out HB2.out.size hb); clear hb)))
  · have na := HN.out (wrap64 (wrap64 (pl + 4) + 5 * (i : Int)))
    have nb := HM.out (wrap64 (wrap64 (pl + 7) + 5 * (i : Int)))
    generalize num l (wrap64 (wrap64 (pl + 4) + 5 * (i : Int))) 3 = xa at *
    generalize num l (wrap64 (wrap64 (pl + 7) + 5 * (i : Int))) 2 = xb at *
    have hb4 := blk_set (blk_set (blk_set (blk_set h33.out 0 (.int .i64 (xa))) 1 (.int .i64 (xa))) 2 (.int .i64 (xb))) 3 (.int .i64 (0))
    have q0 := (blk_cell hb4 0).trans rfl
    have q1 := (blk_cell hb4 1).trans rfl
    have q2 := (blk_cell hb4 2).trans rfl
    have q3 := (blk_cell hb4 3).trans rfl
    refine bodyPost_ret (v := .agg #[.int .i64 (xa), .int .i64 (xa), .int .i64 (xb), .int .i64 (0)]) (by simp [results, Try.results78, go_sem, q0, q1, q2, q3]) rfl ⟨.inl ⟨xa, xa, xb, 0, rfl, rfl, ?_, ?_, ?_, .inl rfl⟩, below_set (below_set (below_set (below_set HB3.out (Nat.le_refl _)) (Nat.le_refl _)) (Nat.le_refl _)) (Nat.le_refl _)⟩
    · show (0 : Int) ≤ xa
      omega
    · show (0 : Int) ≤ xb
      omega
    · show (xb : Int) ≤ 4294967296
      omega
  · exact ⟨rfl, .inr ⟨51, by decide, rfl⟩, HB3.out⟩
  · exact ⟨rfl, .inr ⟨51, by decide, rfl⟩, HB2.out⟩
end Go.Proofs.Ytebmfbfmdbimdaa.F
namespace Go.Proofs.Ytebmfbfmdbimdaa.F
open Go.RowKit Go.Proofs.YtebmfbfmdbimdaaW.PrintWords Go.Proofs.YtebmfbfmdbimdaaW.PrintLast Go.Proofs.YtebmfbfmdbimdaaW.PrintMore Go.Proofs.Ytebmfbfmdbimdaa.rowQ
set_option linter.unusedVariables false
set_option linter.unusedSimpArgs false
set_option maxRecDepth 100000 in
set_option maxHeartbeats 2000000 in
theorem more_any (w w0 : World) (g b p : Nat) (A : Option Addr) (c : Nat) (l : List Int) (tot at_ : Int) (hr : Rd w0 g p A c l w) (hp : w.heap[b]? = some (.cells #[.int .i64 tot] 3 (0, 0))) (ht : 0 ≤ tot ∧ tot ≤ 4096) (hb : ∀ z ∈ l, 0 ≤ z ∧ z ≤ 255) :
    Calls Try.prog 74 (#[.int .i64 at_] ++ #[.pointer (some ⟨g, 0, none⟩), .pointer (some ⟨b, 0, none⟩)]) w fun e w' => (∃ (n : Nat) (w1 : World), e = .returned (.int .i64 n) ∧ (n : Int) ≤ 4096 - tot ∧ Below w.heap.size w w1 ∧ w' = w1.setCell ⟨b, 0, none⟩ (.int .i64 (tot + n))) ∨ (Thr e ∧ Below w.heap.size w w') := by
  have HC := Aside0.mk (fun W (hv : View W p A c l) => cu32_any p A c l at_ W hv hb)
  have HN := Aside0.mk (num_bound (l := l) (at_ := at_) (n := 4) hb (by decide))
  have HR := Aside0.mk hr
  have hc1 := hr.cell
  have HP := Aside0.mk hp
  have HT := Aside0.mk ht
  have hw : wrap64 (4096 - tot) = 4096 - tot := by unfold wrap64; omega
  generalize num l at_ 4 = x at *
  have hd : decide (x ≤ 4096 - tot) = true ∨ decide (x ≤ 4096 - tot) = false := by cases decide (x ≤ 4096 - tot) <;> simp
  have HW : Aside0 (x ≤ 4096 - tot → wrap64 (tot + x) = tot + x) := ⟨fun h => by have := HN.out; unfold wrap64; omega⟩
  clear hr hb hp ht
  rcases hd with hd | hd
  · have hw2 := HW.out (of_decide_eq_true hd)
    have HX := Aside0.mk (of_decide_eq_true hd)
    obtain ⟨n, hn⟩ := Int.eq_ofNat_of_zero_le HN.out.1
    have Hn := Aside0.mk hn
    clear hn
    go_enter Try.func74, Try.ntmps74
    go_wp2_with (first | (go_at_call 62; (refine (HC.out _ HR.out.view).mono ?_); rintro e w2 ⟨rfl | rfl, hb⟩ <;> (have hp2 := (blk_cell (blk_below HP.out hb) 0).trans rfl; have hf2 := blk_frozen (blk_below HP.out hb) 0; have HB2 := Aside0.mk hb; clear hb)) | (go_at_call 54; (with_reducible refine (must_ok 53 _).mono ?_); rintro e w3 ⟨rfl, rfl⟩))
    · go_ret
      refine .inl ⟨n, w3, by rw [← Hn.out]; rfl, by have := HX.out; rw [Hn.out] at this; exact this, HB2.out, by rw [← Hn.out]⟩
    · exact ⟨rfl, .inr ⟨⟨51, by decide, rfl⟩, HB2.out⟩⟩
  · go_enter Try.func74, Try.ntmps74
    go_wp2_with (first | (go_at_call 62; (refine (HC.out _ HR.out.view).mono ?_); rintro e w2 ⟨rfl | rfl, hb⟩ <;> (have hp2 := (blk_cell (blk_below HP.out hb) 0).trans rfl; have HB2 := Aside0.mk hb; clear hb)) | (go_at_call 54; (with_reducible refine (must_no 53 _).mono ?_); rintro e w3 ⟨rfl, rfl⟩))
    · exact ⟨rfl, .inr ⟨⟨53, by decide, rfl⟩, HB2.out⟩⟩
    · exact ⟨rfl, .inr ⟨⟨51, by decide, rfl⟩, HB2.out⟩⟩
end Go.Proofs.Ytebmfbfmdbimdaa.F
