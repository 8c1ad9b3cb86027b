/- WholeHull: the law, walked. -/
import Derived.Test.YteoonjnmghponaaZHha
namespace Go.Proofs.Yteoonjnmghponaa.H
open Go.RowKit Go.Proofs.Yteoonjnmghponaa.F Go.Proofs.YteoonjnmghponaaW.PrintWords Go.Proofs.YteoonjnmghponaaW.PrintLast Go.Proofs.YteoonjnmghponaaW.PrintMore
set_option linter.unusedVariables false
set_option linter.unusedSimpArgs false
/-- What Flat hands back, as a tuple. -/
theorem FlatE.shape {B : Bx} {w0 w' : World} {xs : List (List S70)} {e : Ending} (h : FlatE B w0 xs e w') : ∃ A n c r, e = .returned (.tuple #[.slice A n c, .int .i64 r]) ∧ Below w0.heap.size w0 w' ∧
    ((r ≠ 0 ∧ A = none ∧ n = 0 ∧ c = 0) ∨ (r = 0 ∧ (∀ c ∈ xs, OkC c) ∧ ∃ ls : List (List S30), n = ls.length ∧ ls.length ≤ c ∧ Kd.C (Kd.slice 30 k30) w' A ls.length ls ∧ ls.length ≤ 256 ∧ (∀ c ∈ ls, c.length ≤ 70000) ∧ (∀ c ∈ ls, ∀ s ∈ c, InS B s.f0 s.f1) ∧ ls.length = xs.length ∧ ∀ j, j < xs.length → xs.getD j [] ≠ [] → ls.getD j [] ≠ [])) := by
  obtain ⟨hb, ⟨r, hr, rfl⟩ | ⟨hok, A, c, ls, rfl, h1, h2, h3, h4, h5, h6⟩⟩ := h
  · exact ⟨_, _, _, _, rfl, hb, .inl ⟨hr, rfl, rfl, rfl⟩⟩
  · exact ⟨_, _, _, _, rfl, hb, .inr ⟨rfl, hok, ls, rfl, h1, h2, h3, fun c hc => (h4 c hc).1, fun c hc => (h4 c hc).2, h5, h6⟩⟩
/-- The numbers of what Fill hands back. -/
theorem MaskE.nums {w w' : World} {xs : List (List S30)} {r0 m0 m1 m2 m3 r : Int} {A : Option Addr} {n c : Nat} (h : MaskE w xs r0 (.returned (.tuple #[.agg #[.int .i64 m0, .int .i64 m1, .int .i64 m2, .int .i64 m3, .slice A n c], .int .i64 r])) w') :
    (r = 213 ∨ r = 214) ∨ (r = 0 ∧ all30 xs none = none ∧ m2 = 0 ∧ m3 = 0 ∧ A = none ∧ n = 0 ∧ c = 0) ∨
    (r = 0 ∧ ∃ (b : Bx) (cov : List Int), all30 xs none = some b ∧ mW b ≤ 512 ∧ mH b ≤ 512 ∧ (cov.length : Int) = mW b * mH b ∧ Kd.R (Kd.int .u8) 5 w' w.heap.size (fun _ => True) (.slice A n c) cov ∧ Cov8 xs b cov ∧ m0 = mX b ∧ m1 = mY b ∧ m2 = mW b ∧ m3 = mH b) := by
  obtain ⟨_, ⟨q, hq, _, he⟩ | ⟨_, h1, he⟩ | ⟨_, b, A', c', cov, h1, h2, h3, h4, h5, h6, he⟩⟩ := h
  · unfold zeroM at he
    simp at he
    exact .inl (by rw [he.2]; exact hq)
  · unfold zeroM at he
    simp at he
    exact .inr (.inl ⟨he.2, h1, he.1.2.2.1, he.1.2.2.2.1, he.1.2.2.2.2.1, he.1.2.2.2.2.2.1, he.1.2.2.2.2.2.2⟩)
  · simp at he
    obtain ⟨⟨e0, e1, e2, e3, e4, e5, e6⟩, er⟩ := he
    subst e4 e5 e6
    exact .inr (.inr ⟨er, b, cov, h1, h2, h3, h4, h5, h6, e0, e1, e2, e3⟩)
set_option maxHeartbeats 8000000 in
set_option maxRecDepth 100000 in
theorem law_any {w : World} {A : Option Addr} {c : Nat} {xs : List (List S70)} (hr : Kd.C (Kd.slice 70 k70) w A xs.length xs) (hc : xs.length ≤ c) (hl : xs.length ≤ 1048576) (hx : ∀ c ∈ xs, c.length ≤ 1048576) :
    Calls Try.prog 3 #[.slice A xs.length c] w fun e w' => e = .returned (.bool true) ∧ Below w.heap.size w w' := by
  have HC := Aside0.mk hr
  obtain ⟨kc, hkc⟩ := copy_ok (xs := xs) (fun c hc => by have := hx c hc; omega) (by omega)
  have hcopy : ∀ W, Below w.heap.size w W → Calls Try.prog 7 #[.slice A xs.length c] W fun e w' => ∃ A' c', e = .returned (.slice A' xs.length c') ∧ Kd.S (Kd.slice 70 k70) 65 w' W.heap.size (fun _ => True) (.slice A' xs.length c') xs ∧ Below W.heap.size W w' := fun W hW => by
    refine Calls.mono (serifref06_Copy.calls kc A c xs xs W (Kd.C_below hr hW) hc hkc) ?_
    rintro e w' ⟨v, rfl, hS, hb⟩
    obtain ⟨A', c', rfl⟩ := Kd.S_slice hS
    exact ⟨A', c', rfl, hS, hb⟩
  have hflat : ∀ W w1 A' c', Below W.heap.size W w1 → Kd.S (Kd.slice 70 k70) 65 w1 W.heap.size (fun _ => True) (.slice A' xs.length c') xs → Calls Try.prog 6 #[.slice A' xs.length c'] w1 (FlatE (hullB xs) W xs) :=
    fun W w1 A' c' hb hS => flat_any hb hS (fun c hc => by have := hx c hc; omega) (by omega) (fun h => hullB_ok h)
  have hhull : ∀ W A' c', Kd.C (Kd.slice 70 k70) W A' xs.length xs → Calls Try.prog 8 #[.slice A' xs.length c'] W fun e w' => e = .returned (.tuple #[obV (all70 xs none), .bool (all70 xs none).isSome]) ∧ Below W.heap.size W w' :=
    fun W A' c' hC => hull_any hC (by omega) (fun c hc => by have := hx c hc; omega)
  have HCP := Aside0.mk hcopy
  have HFL := Aside0.mk hflat
  have HHU := Aside0.mk hhull
  have hsq := square_any w
  unfold sqW at hsq
  have HSQ := Aside0.mk hsq
  have HXL := Aside0.mk hx
  clear hcopy hflat hhull hr hc hsq hkc hx
  go_enter Try.func3, Try.ntmps3
  go_upto_region 2 with (go_at_call 5; ((with_reducible refine Calls.mono HSQ.out ?_); rintro e w3 ⟨A3, c3, rfl, hr3, hb3⟩; have HR3 := Aside0.mk hr3; have HB3 := Aside0.mk hb3; clear hr3 hb3))
  have hb5 := below_alloc (Below.refl w3.heap.size w3) (.cells #[.int .i64 0, .int .i64 0, .int .i64 1, .int .i64 1, .slice A3 1 c3] 25)
  have HB5 := Aside0.mk (below_then HB3.out HB3.out.size hb5)
  have B5 := Aside0.mk (blk_new w3 (.cells #[.int .i64 0, .int .i64 0, .int .i64 1, .int .i64 1, .slice A3 1 c3] 25))
  obtain ⟨g3, cap3, hv3, _, _, _⟩ := Kd.R_form HR3.out (by decide)
  have hA3 : A3 = some ⟨g3, 0, none⟩ := by injection hv3
  clear hv3
  subst hA3
  have hq := (Kd.R_cell 0 HR3.out 0 (by decide) (by decide)).1
  have k3 : (w3.alloc (.cells #[.int .i64 0, .int .i64 0, .int .i64 1, .int .i64 1, .slice (some ⟨g3, 0, none⟩) 1 c3] 25)).cell? ⟨g3, 0, none⟩ = some (.int .u8 247) := pw_cell_below hb5 hq
  have HW5 : Aside0 (w.heap.size ≤ (w3.alloc (.cells #[.int .i64 0, .int .i64 0, .int .i64 1, .int .i64 1, .slice (some ⟨g3, 0, none⟩) 1 c3] 25)).heap.size) := ⟨HB5.out.size⟩
  clear hb5 hq
  generalize w3.alloc (.cells #[.int .i64 0, .int .i64 0, .int .i64 1, .int .i64 1, .slice (some ⟨g3, 0, none⟩) 1 c3] 25) = w5 at *
  generalize w3.heap.size = g5 at *
  have k5 : w5.cell? ⟨g5, 4, none⟩ = some (.slice (some ⟨g3, 0, none⟩) 1 c3) := (blk_cell B5.out 4).trans rfl
  go_upto_region 4 with fail
  clear k3 k5
  go_upto_region 5 with (first
    | (go_at_call 7; ((with_reducible refine Calls.mono (HCP.out _ HB5.out) ?_); rintro e w6 ⟨A6, c6, rfl, hs6, hb6⟩; have HS6 := Aside0.mk hs6; have HB6 := Aside0.mk hb6; clear hs6 hb6))
    | (go_at_call 6; ((with_reducible refine Calls.mono (HFL.out _ _ _ _ HB6.out HS6.out) ?_); rintro e w7 hf7; obtain ⟨A7, n7, c7, r7, rfl, hb7, hf8⟩ := hf7.shape; have HB7 := Aside0.mk hb7; have HF7 := Aside0.mk hf8; clear hf7 hb7 hf8)))
  have HB57 := Aside0.mk (below_then HB5.out HB5.out.size HB7.out)
  rcases HF7.out with ⟨hr7, rfl, rfl, rfl⟩ | ⟨rfl, hok, ls, rfl, hle7, hC7, hl7, hx7, hin7, hln7, hne7⟩
  · have hrb : (r7 != 0) = true := by simp [hr7]
    have hrb2 : (r7 == 0) = false := by simp [hr7]
    go_wp2
    go_ret
    exact ⟨rfl, HB57.out⟩
  · obtain ⟨k8, r8, hk8, hr8, hs8⟩ := rcheck_ok hx7 hl7
    have hfill := fill_any hC7 hle7 hl7 hx7 hk8 hr8 hs8
    have HFI := Aside0.mk hfill
    have HIN := Aside0.mk hin7
    have HLN := Aside0.mk hln7
    have HNE := Aside0.mk hne7
    have HOK := Aside0.mk hok
    clear hfill hin7 hln7 hne7 hC7 hx7 hk8 hr8 hs8 hok HF7
    go_upto_region 8 with (go_at_call 5; ((with_reducible refine Calls.mono HFI.out ?_); rintro e w8 hm; obtain ⟨m0, m1, m2, m3, A8, n8, c8, r, rfl⟩ := hm.shape; have HME := Aside0.mk hm; clear hm))
    have hb9 := below_alloc (Below.refl w8.heap.size w8) (.cells #[.int .i64 m0, .int .i64 m1, .int .i64 m2, .int .i64 m3, .slice A8 n8 c8] 25)
    have HB8 := Aside0.mk (below_then HB57.out HB57.out.size HME.out.1)
    have HB9 := Aside0.mk (below_then HB8.out HB8.out.size hb9)
    have B9 := Aside0.mk (blk_new w8 (.cells #[.int .i64 m0, .int .i64 m1, .int .i64 m2, .int .i64 m3, .slice A8 n8 c8] 25))
    have HM9 := Aside0.mk (fun cov (h : Kd.R (Kd.int .u8) 5 w8 w7.heap.size (fun _ => True) (.slice A8 n8 c8) cov) => Kd.R_below h hb9)
    have HNU := Aside0.mk HME.out.nums
    clear hb9 HME HB8
    generalize w8.alloc (.cells #[.int .i64 m0, .int .i64 m1, .int .i64 m2, .int .i64 m3, .slice A8 n8 c8] 25) = w9 at *
    generalize w8.heap.size = g9 at *
    rcases HNU.out with (rfl | rfl) | ⟨rfl, hb, rfl, rfl, rfl, rfl, rfl⟩ | ⟨rfl, b, cov, hb, hw, hh, hcl, hR, hcov, rfl, rfl, rfl, rfl⟩
    · go_wp2
      go_ret
      exact ⟨rfl, HB9.out⟩
    · go_wp2
      go_ret
      exact ⟨rfl, HB9.out⟩
    · have ha : all70 xs none = none := by
        cases ha : all70 xs none with
        | none => rfl
        | some B =>
          obtain ⟨b, h1, _⟩ := hull_some ha HIN.out HLN.out HNE.out
          rw [hb] at h1
          cases h1
      have hhc : ∀ W A' c', Kd.C (Kd.slice 70 k70) W A' xs.length xs → Calls Try.prog 8 #[.slice A' xs.length c'] W fun e w' => e = .returned (.tuple #[.agg #[.int .i64 0, .int .i64 0, .int .i64 0, .int .i64 0], .bool false]) ∧ Below W.heap.size W w' := fun W A' c' hC => by
        have h := HHU.out W A' c' hC
        rw [ha] at h
        exact h
      have HHC := Aside0.mk hhc
      clear hhc
      go_upto_region 11 with (first
        | (go_at_call 7; ((with_reducible refine Calls.mono (HCP.out _ HB9.out) ?_); rintro e w10 ⟨A10, c10, rfl, hs10, hb10⟩; have HS10 := Aside0.mk hs10; have HB10 := Aside0.mk (below_then HB9.out HB9.out.size hb10); have B910 := Aside0.mk (blk_below B9.out hb10); clear hs10 hb10))
        | (go_at_call 8; ((with_reducible refine Calls.mono (HHC.out _ _ _ (Kd.S_reads' HS10.out).2.2) ?_); rintro e w11 ⟨rfl, hb11⟩; have HB11 := Aside0.mk (below_then HB10.out HB10.out.size hb11); have B911 := Aside0.mk (blk_below B910.out hb11); clear hb11)))
      have hb12 := below_alloc (Below.refl w11.heap.size w11) (.cells #[.int .i64 0, .int .i64 0, .int .i64 0, .int .i64 0] 37)
      have HB12 := Aside0.mk (below_then HB11.out HB11.out.size hb12)
      have B912 := Aside0.mk (blk_below B911.out hb12)
      have B12 := Aside0.mk (blk_new w11 (.cells #[.int .i64 0, .int .i64 0, .int .i64 0, .int .i64 0] 37))
      clear hb12
      generalize w11.alloc (.cells #[.int .i64 0, .int .i64 0, .int .i64 0, .int .i64 0] 37) = w12 at *
      generalize w11.heap.size = g12 at *
      have k2 : w12.cell? ⟨g9, 2, none⟩ = some (.int .i64 0) := (blk_cell B912.out 2).trans rfl
      have k3 : w12.cell? ⟨g9, 3, none⟩ = some (.int .i64 0) := (blk_cell B912.out 3).trans rfl
      have k4 : w12.cell? ⟨g9, 4, none⟩ = some (.slice none 0 0) := (blk_cell B912.out 4).trans rfl
      go_wp2
      go_ret
      exact ⟨rfl, HB12.out⟩
    · cases ha : all70 xs none with
      | none =>
        have := hull_none ha HIN.out
        rw [hb] at this
        cases this
      | some B =>
      obtain ⟨b', h1, h2, h3, h4, h5, h6, h7⟩ := hull_some ha HIN.out HLN.out HNE.out
      rw [hb] at h1
      injection h1 with h1
      subst h1
      have hBk := (hullB_ok (xs := xs) HOK.out).1
      have hBe : hullB xs = B := by unfold hullB; rw [ha]; rfl
      rw [hBe] at hBk
      obtain ⟨p0, q0, p1, q1⟩ := B
      have hk1 := hBk.a
      have hk2 := hBk.b
      have hk3 := hBk.c
      have hk4 := hBk.d
      dsimp only at h2 h3 h4 h5 hk1 hk2 hk3 hk4
      have HZ : Aside0 (p0 = p1 ∨ q0 = q1 → ∀ c ∈ cov, c = 0) := ⟨fun h => flat_cov hcov hb (by omega)⟩
      have e1 : p0 / 64 ≤ mX b := by unfold mX; omega
      have e2 : q0 / 64 ≤ mY b := by unfold mY; omega
      have e3 : mX b + mW b - 1 ≤ p1 / 64 := by unfold mX mW; omega
      have e4 : mY b + mH b - 1 ≤ q1 / 64 := by unfold mY mH; omega
      have e5 : -100000000 ≤ mX b ∧ mX b ≤ 100000000 := by unfold mX; omega
      have e6 : -100000000 ≤ mY b ∧ mY b ≤ 100000000 := by unfold mY; omega
      have e7 : 1 ≤ mW b := by unfold mW; omega
      have e8 : 1 ≤ mH b := by unfold mH; omega
      have R9 := Aside0.mk (HM9.out cov hR)
      have hdn := fun a (h : -4294967296 ≤ a ∧ a ≤ 4294967296) W => (Calls.mono (serifref21_Down.calls a (a / 64) W (down_is h)) (fun e w' he => (⟨he.1, he.2.out⟩ : e = .returned (.int .i64 (a / 64)) ∧ ∃ m, w' = W.drewN m)))
      have hd0 := hdn p0 (by omega)
      have hd1 := hdn q0 (by omega)
      have hd2 := hdn p1 (by omega)
      have hd3 := hdn q1 (by omega)
      clear HM9 HNU hdn hcov hb hR hBk hBe h2 h3 h4 h5 h6 h7 HIN HLN HNE HOK HFI HFL HSQ
      generalize p0 / 64 = D0 at *
      generalize q0 / 64 = D1 at *
      generalize p1 / 64 = D2 at *
      generalize q1 / 64 = D3 at *
      have HD0 := Aside0.mk hd0
      have HD1 := Aside0.mk hd1
      have HD2 := Aside0.mk hd2
      have HD3 := Aside0.mk hd3
      clear hd0 hd1 hd2 hd3
      generalize mX b = X at *
      generalize mY b = Y at *
      generalize mW b = Wd at *
      generalize mH b = H at *
      have hn8 := (Kd.R_reads' R9.out).1
      subst hn8
      have hhc : ∀ W A' c', Kd.C (Kd.slice 70 k70) W A' xs.length xs → Calls Try.prog 8 #[.slice A' xs.length c'] W fun e w' => e = .returned (.tuple #[.agg #[.int .i64 p0, .int .i64 q0, .int .i64 p1, .int .i64 q1], .bool true]) ∧ Below W.heap.size W w' := fun W A' c' hC => by
        have h := HHU.out W A' c' hC
        rw [ha] at h
        exact h
      have HHC := Aside0.mk hhc
      clear hhc
      go_upto_region 11 with (first
        | (go_at_call 7; ((with_reducible refine Calls.mono (HCP.out _ HB9.out) ?_); rintro e w10 ⟨A10, c10, rfl, hs10, hb10⟩; have HS10 := Aside0.mk hs10; have HB10 := Aside0.mk (below_then HB9.out HB9.out.size hb10); have B910 := Aside0.mk (blk_below B9.out hb10); have R10 := Aside0.mk (Kd.R_below R9.out hb10); clear hs10 hb10))
        | (go_at_call 8; ((with_reducible refine Calls.mono (HHC.out _ _ _ (Kd.S_reads' HS10.out).2.2) ?_); rintro e w11 ⟨rfl, hb11⟩; have HB11 := Aside0.mk (below_then HB10.out HB10.out.size hb11); have B911 := Aside0.mk (blk_below B910.out hb11); have R11 := Aside0.mk (Kd.R_below R10.out hb11); clear hb11)))
      have hb12 := below_alloc (Below.refl w11.heap.size w11) (.cells #[.int .i64 p0, .int .i64 q0, .int .i64 p1, .int .i64 q1] 37)
      have HB12 := Aside0.mk (below_then HB11.out HB11.out.size hb12)
      have B912 := Aside0.mk (blk_below B911.out hb12)
      have B12 := Aside0.mk (blk_new w11 (.cells #[.int .i64 p0, .int .i64 q0, .int .i64 p1, .int .i64 q1] 37))
      have R12 := Aside0.mk (Kd.R_below R11.out hb12)
      clear hb12
      generalize w11.alloc (.cells #[.int .i64 p0, .int .i64 q0, .int .i64 p1, .int .i64 q1] 37) = w12 at *
      generalize w11.heap.size = g12 at *
      have m0 : w12.cell? ⟨g9, 0, none⟩ = some (.int .i64 X) := (blk_cell B912.out 0).trans rfl
      have m1 : w12.cell? ⟨g9, 1, none⟩ = some (.int .i64 Y) := (blk_cell B912.out 1).trans rfl
      have m2 : w12.cell? ⟨g9, 2, none⟩ = some (.int .i64 Wd) := (blk_cell B912.out 2).trans rfl
      have m3 : w12.cell? ⟨g9, 3, none⟩ = some (.int .i64 H) := (blk_cell B912.out 3).trans rfl
      have m4 : w12.cell? ⟨g9, 4, none⟩ = some (.slice A8 cov.length c8) := (blk_cell B912.out 4).trans rfl
      have x0 : w12.cell? ⟨g12, 0, none⟩ = some (.int .i64 p0) := (blk_cell B12.out 0).trans rfl
      have x1 : w12.cell? ⟨g12, 1, none⟩ = some (.int .i64 q0) := (blk_cell B12.out 1).trans rfl
      have x2 : w12.cell? ⟨g12, 2, none⟩ = some (.int .i64 p1) := (blk_cell B12.out 2).trans rfl
      have x3 : w12.cell? ⟨g12, 3, none⟩ = some (.int .i64 q1) := (blk_cell B12.out 3).trans rfl
      have hWH1 : Wd * H ≤ 262144 := by
        have h1 : Wd * H ≤ 512 * 512 := Int.le_trans (Int.mul_le_mul_of_nonneg_right hw (by omega)) (Int.mul_le_mul_of_nonneg_left hh (by omega))
        omega
      have hWH0 : 0 ≤ Wd * H := Int.mul_nonneg (by omega) (by omega)
      have hcvl : cov.length ≤ 262144 := by omega
      have t1 : decide (X < D0) = false := decide_eq_false (by omega)
      have t2 : decide (Y < D1) = false := decide_eq_false (by omega)
      have t3 : decide (D2 < X + Wd - 1) = false := decide_eq_false (by omega)
      have t4 : decide (D3 < Y + H - 1) = false := decide_eq_false (by omega)
      have t5 : ((cov.length : Int) != Wd * H) = false := by rw [hcl]; simp
      go_upto_region 13 with fail
      go_quiet ((go_at_call 9; first | with_reducible exact Calls.quiet_of (HD0.out _) | with_reducible exact Calls.quiet_of (HD1.out _) | with_reducible exact Calls.quiet_of (HD2.out _) | with_reducible exact Calls.quiet_of (HD3.out _)))
      have hb13 := pw_below_drewN (Below.refl w12.heap.size w12) nq
      have HB13 := Aside0.mk (below_then HB12.out HB12.out.size hb13)
      have R13 := Aside0.mk (Kd.R_below R12.out hb13)
      have y0 := pw_cell_below hb13 x0
      have y1 := pw_cell_below hb13 x1
      have y2 := pw_cell_below hb13 x2
      have y3 := pw_cell_below hb13 x3
      have n4 := pw_cell_below hb13 m4
      clear hb13 x0 x1 x2 x3 m0 m1 m2 m3 m4 t1 t2 t3 t4 t5 hWH0 hWH1 hcl e1 e2 e3 e4 HD0 HD1 HD2 HD3
      generalize w12.drewN nq = w13 at *
      by_cases hp : p0 = p1
      · have hpb : (p0 != p1) = false := by simp [hp]
        have HZ0 := Aside0.mk (HZ.out (.inl hp))
        clear HZ hp
        go_wp2
        go_loopg [12, 148] cov.length (fun kx s12 s148 wr => ∃ i : Nat, s148 = .int .i64 i ∧ i ≤ cov.length ∧ cov.length - i ≤ kx ∧ wr = w13)
        case atStart => exact ⟨0, rfl, Nat.zero_le _, Nat.le_refl _, rfl⟩
        case round =>
          obtain ⟨i, rfl, hin, hkx, rfl⟩ := hrel
          by_cases hlt : i < cov.length
          · have hltz : (i : Int) < (cov.length : Int) := by omega
            obtain ⟨gc, capc, hvc, _, _, _⟩ := Kd.R_form R13.out (by omega)
            have hA8 : A8 = some ⟨gc, 0, none⟩ := by injection hvc
            clear hvc
            subst hA8
            have hq := (Kd.R_cell 0 R13.out (i : Int) (by omega) hltz).1
            rw [Int.toNat_natCast] at hq
            have HLT := Aside0.mk hlt
            have hz : rdOf 0 cov (i : Int) = 0 := HZ0.out _ (by
              unfold rdOf
              rw [Int.toNat_natCast, List.getD_eq_getElem?_getD, List.getElem?_eq_getElem hlt]
              exact List.getElem_mem hlt)
            rw [hz] at hq
            clear hz
            go_wp2
            go_roundg (cov.length - (i + 1))
            case measure => have := HLT.out; omega
            case rel => exact ⟨i + 1, by go_num, by have := HLT.out; omega, Nat.le_refl _, rfl⟩
          · have hltz : ¬ (i : Int) < (cov.length : Int) := by omega
            go_wp2
            go_ret
            exact ⟨rfl, HB13.out⟩
      · have hpb : (p0 != p1) = true := by simp [hp]
        by_cases hq : q0 = q1
        · have hqb : (q0 != q1) = false := by simp [hq]
          have HZ0 := Aside0.mk (HZ.out (.inr hq))
          clear HZ hq
          go_wp2
          go_loopg [12, 148] cov.length (fun kx s12 s148 wr => ∃ i : Nat, s148 = .int .i64 i ∧ i ≤ cov.length ∧ cov.length - i ≤ kx ∧ wr = w13)
          case atStart => exact ⟨0, rfl, Nat.zero_le _, Nat.le_refl _, rfl⟩
          case round =>
            obtain ⟨i, rfl, hin, hkx, rfl⟩ := hrel
            by_cases hlt : i < cov.length
            · have hltz : (i : Int) < (cov.length : Int) := by omega
              obtain ⟨gc, capc, hvc, _, _, _⟩ := Kd.R_form R13.out (by omega)
              have hA8 : A8 = some ⟨gc, 0, none⟩ := by injection hvc
              clear hvc
              subst hA8
              have hq := (Kd.R_cell 0 R13.out (i : Int) (by omega) hltz).1
              rw [Int.toNat_natCast] at hq
              have HLT := Aside0.mk hlt
              have hz : rdOf 0 cov (i : Int) = 0 := HZ0.out _ (by
                unfold rdOf
                rw [Int.toNat_natCast, List.getD_eq_getElem?_getD, List.getElem?_eq_getElem hlt]
                exact List.getElem_mem hlt)
              rw [hz] at hq
              clear hz
              go_wp2
              go_roundg (cov.length - (i + 1))
              case measure => have := HLT.out; omega
              case rel => exact ⟨i + 1, by go_num, by have := HLT.out; omega, Nat.le_refl _, rfl⟩
            · have hltz : ¬ (i : Int) < (cov.length : Int) := by omega
              go_wp2
              go_ret
              exact ⟨rfl, HB13.out⟩
        · have hqb : (q0 != q1) = true := by simp [hq]
          go_wp2
          go_ret
          exact ⟨rfl, HB13.out⟩
end Go.Proofs.Yteoonjnmghponaa.H
