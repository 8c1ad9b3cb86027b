/- Package cmap, whatever the bytes: a subtable of form 4 (CmapBounds). -/
import Derived.Test.YtebmfbfmdbimdaaZB89
import Derived.Test.YtebmfbfmdbimdaaZCmapB1
import Derived.Test.YtebmfbfmdbimdaaZCmapB3
import Derived.Test.YtebmfbfmdbimdaaZCmap6
import Derived.Deep.RegionHeld2
import Derived.Laws.EntriesVeiled
namespace Go.Proofs.Ytebmfbfmdbimdaa.F
open Go.RowKit Go.Proofs.YtebmfbfmdbimdaaW.PrintWords Go.Proofs.YtebmfbfmdbimdaaW.PrintLast Go.Proofs.YtebmfbfmdbimdaaW.PrintMore
set_option linter.unusedVariables false
set_option linter.unusedSimpArgs false
/-- must, in a walk: the thrown way is closed at once, one way goes on. -/
theorem Calls.must {b : Bool} {c : Int} {w : World} {R : Ending → World → Prop} (hpan : R (PK c) w) (hret : b = true → R (.returned (.tuple #[])) w) : Calls Try.prog 54 #[.bool b, .int .i64 c] w R := by
  cases b
  · exact (must_no c w).mono fun e w' ⟨he, hw⟩ => by subst he hw; exact hpan
  · exact (must_ok c w).mono fun e w' ⟨he, hw⟩ => by subst he hw; exact hret rfl
theorem num2_bound {l : List Int} {at_ : Int} (hb : ∀ z ∈ l, 0 ≤ z ∧ z ≤ 255) : 0 ≤ num l at_ 2 ∧ num l at_ 2 ≤ 65535 := by
  have h := numL_bound (L := partL l at_ 2) (x := 0) (fun z hz => hb z (part_mem hz)) (by decide)
  refine ⟨h.1, ?_⟩
  have h2 : (partL l at_ 2).length = 0 ∨ (partL l at_ 2).length = 2 := by
    by_cases hp : partOk l at_ 2
    · exact .inr (partL_length hp)
    · left; unfold partL; rw [if_neg hp]; rfl
  have h1 := h.2
  unfold num
  rcases h2 with h2 | h2 <;> rw [h2] at h1 <;> omega
/-- What segments finds and keeps. -/
structure Sg (w : World) (g m p : Nat) (A : Option Addr) (c : Nat) (l : List Int) (G : Int) (wx : World) : Prop where
  blk : wx.heap[g]? = some (.cells #[.pointer (some ⟨p, 0, none⟩)] 114 (0, 0))
  map : wx.heap[m]? = some (.cells #[.int .i64 4, .int .i64 G, .slice none 0 0, .nilFunc, .slice none 0 0] 93 (0, 0))
  view : View wx p A c l
  keep : Below m w wx
section
variable {w wx wy : World} {g m p b : Nat} {A : Option Addr} {c : Nat} {l : List Int} {G x y : Int}
theorem Sg.below (s : Sg w g m p A c l G wx) (hb : Below wx.heap.size wx wy) : Sg w g m p A c l G wy :=
  ⟨blk_below s.blk hb, blk_below s.map hb, s.view.below hb, below_then s.keep (Nat.le_of_lt (blk_lt s.map)) hb⟩
theorem Sg.cell (s : Sg w g m p A c l G wx) : wx.cell? ⟨g, 0, none⟩ = some (.pointer (some ⟨p, 0, none⟩)) := (blk_cell s.blk 0).trans rfl
theorem Sg.set (s : Sg w g m p A c l G wx) (hb : wx.heap[b]? = some (.cells #[.int .i64 x] 3 (0, 0))) (hm : m < b) : Sg w g m p A c l G (wx.setCell ⟨b, 0, none⟩ (.int .i64 y)) := by
  have hg : g ≠ b := blk_ne s.blk hb (by decide)
  have hp : p ≠ b := blk_ne s.view.blk hb (by decide)
  exact ⟨blk_far s.blk hg _, blk_far s.map (Nat.ne_of_lt hm) _, s.view.set hb hp (by intro i z; rcases i with _ | i <;> simp) 0 _, s.keep.setCell (Nat.le_of_lt hm) _⟩
end
theorem four_new (w : World) (o1 o2 o3 o4 : Array Value) : ((((w.alloc (.cells o1 47)).alloc (.cells o2 47)).alloc (.cells o3 47)).alloc (.cells o4 47)).drew.heap[w.heap.size]? = some (.cells o1 47 (0, 0)) ∧ ((((w.alloc (.cells o1 47)).alloc (.cells o2 47)).alloc (.cells o3 47)).alloc (.cells o4 47)).drew.heap[w.heap.size + 1]? = some (.cells o2 47 (0, 0)) ∧
    ((((w.alloc (.cells o1 47)).alloc (.cells o2 47)).alloc (.cells o3 47)).alloc (.cells o4 47)).drew.heap[w.heap.size + 1 + 1]? = some (.cells o3 47 (0, 0)) ∧ ((((w.alloc (.cells o1 47)).alloc (.cells o2 47)).alloc (.cells o3 47)).alloc (.cells o4 47)).drew.heap[w.heap.size + 1 + 1 + 1]? = some (.cells o4 47 (0, 0)) ∧
    Below w.heap.size w ((((w.alloc (.cells o1 47)).alloc (.cells o2 47)).alloc (.cells o3 47)).alloc (.cells o4 47)).drew := by
  have h1 := blk_new w (.cells o1 47)
  have h2 := blk_new (w.alloc (.cells o1 47)) (.cells o2 47)
  have h3 := blk_new ((w.alloc (.cells o1 47)).alloc (.cells o2 47)) (.cells o3 47)
  have h4 := blk_new (((w.alloc (.cells o1 47)).alloc (.cells o2 47)).alloc (.cells o3 47)) (.cells o4 47)
  rw [show (w.alloc (.cells o1 47)).heap.size = w.heap.size + 1 from by simp] at h2
  rw [show ((w.alloc (.cells o1 47)).alloc (.cells o2 47)).heap.size = w.heap.size + 1 + 1 from by simp] at h3
  rw [show (((w.alloc (.cells o1 47)).alloc (.cells o2 47)).alloc (.cells o3 47)).heap.size = w.heap.size + 1 + 1 + 1 from by simp] at h4
  exact ⟨blk_drew (blk_alloc (blk_alloc (blk_alloc h1 _) _) _), blk_drew (blk_alloc (blk_alloc h2 _) _), blk_drew (blk_alloc h3 _), blk_drew h4, below_drew (below_alloc (below_alloc (below_alloc (below_alloc (Below.refl _ _) _) _) _) _)⟩
theorem Seg.below {wx wy : World} {m be bn bs bo br bd p : Nat} {A : Option Addr} {c : Nat} {l E S O D : List Int} (s : Seg wx m be bn bs bo br bd p A c l E S O D) (hb : Below wx.heap.size wx wy) : Seg wy m be bn bs bo br bd p A c l E S O D := by
  obtain ⟨h1, h2, h3, ⟨A1, c1, h4, r4, q4⟩, ⟨A2, c2, h5, r5, q5⟩, ⟨A3, c3, h6, r6, q6⟩, ⟨A4, c4, h7, r7, q7⟩⟩ := s
  exact ⟨h1.below hb, blk_below h2 hb, blk_below h3 hb, ⟨A1, c1, blk_below h4 hb, Kd.C_below r4 hb, q4⟩, ⟨A2, c2, blk_below h5 hb, Kd.C_below r5 hb, q5⟩, ⟨A3, c3, blk_below h6 hb, Kd.C_below r6 hb, q6⟩, ⟨A4, c4, blk_below h7 hb, Kd.C_below r7 hb, q7⟩⟩
theorem map_u8b {f G : Int} {v u s : Value} (hv : ∀ z, v ≠ .int .u8 z) (hu : ∀ z, u ≠ .int .u8 z) (hs : ∀ z, s ≠ .int .u8 z) : ∀ (i : Nat) (z : Int), (#[.int .i64 f, .int .i64 G, v, u, s] : Array Value)[i]? ≠ some (.int .u8 z) := by
  intro i z
  obtain h | h | h | h | h | h : i = 0 ∨ i = 1 ∨ i = 2 ∨ i = 3 ∨ i = 4 ∨ 5 ≤ i := by omega
  all_goals first | (subst h; simp [hv, hu, hs]) | (rw [Array.getElem?_eq_none (by simpa using h)]; simp)
/-- Four rows of numbers, a reader: as they were, where another block than theirs is written. -/
theorem C_set {W : World} {A1 : Option Addr} {L : List Int} {m : Nat} {cs : Array Value} {t : TypeId} (h : Kd.C (Kd.int .i64) W A1 L.length L) (hb : W.heap[m]? = some (.cells cs t (0, 0))) (hA : ∀ ad, A1 = some ad → 0 < L.length → ad.block ≠ m) (i : Nat) (v : Value) : Kd.C (Kd.int .i64) (W.setCell ⟨m, i, none⟩ v) A1 L.length L :=
  Kd.C_foot_ne (g := m) (fun h => h) h hA _ (KeepBut.set_ (KeepBut.refl _ _ _) _ _)
theorem Seg.setm {wx : World} {m be bn bs bo br bd p : Nat} {A : Option Addr} {c : Nat} {l E S O D : List Int} {f G : Int} {v u y : Value} (s : Seg wx m be bn bs bo br bd p A c l E S O D) (hb : wx.heap[m]? = some (.cells #[.int .i64 f, .int .i64 G, v, u, y] 93 (0, 0))) (hv : ∀ z, v ≠ .int .u8 z) (hu : ∀ z, u ≠ .int .u8 z) (hy : ∀ z, y ≠ .int .u8 z) (i : Nat) (x : Value) : Seg (wx.setCell ⟨m, i, none⟩ x) m be bn bs bo br bd p A c l E S O D := by
  obtain ⟨h1, h2, h3, ⟨A1, c1, h4, r4, q4⟩, ⟨A2, c2, h5, r5, q5⟩, ⟨A3, c3, h6, r6, q6⟩, ⟨A4, c4, h7, r7, q7⟩⟩ := s
  have far : ∀ {A1 : Option Addr} {L : List Int}, (∀ ad, A1 = some ad → m < ad.block) → ∀ ad, A1 = some ad → 0 < L.length → ad.block ≠ m := fun q ad e _ => Nat.ne_of_gt (q ad e)
  exact ⟨h1.set hb (blk_ne h1.blk hb (by decide)) (map_u8b hv hu hy) i x, blk_far h2 (blk_ne h2 hb (by decide)) _, blk_far h3 (blk_ne h3 hb (by decide)) _, ⟨A1, c1, blk_far h4 (blk_ne h4 hb (by decide)) _, C_set r4 hb (far (L := E) q4) i x, q4⟩, ⟨A2, c2, blk_far h5 (blk_ne h5 hb (by decide)) _, C_set r5 hb (far (L := S) q5) i x, q5⟩, ⟨A3, c3, blk_far h6 (blk_ne h6 hb (by decide)) _, C_set r6 hb (far (L := O) q6) i x, q6⟩, ⟨A4, c4, blk_far h7 (blk_ne h7 hb (by decide)) _, C_set r7 hb (far (L := D) q7) i x, q7⟩⟩
theorem map_block {m k : Nat} {q : Prop} [Decidable q] {A : Option Addr} (h : ∀ ad, A = some ad → m < ad.block) : ∀ ad, (if q then A else A.map (fun x => x.add k)) = some ad → m < ad.block := by
  intro ad he
  split at he
  · exact h ad he
  · cases A with
    | none => cases he
    | some a0 =>
      have he : some (a0.add k) = some ad := he
      injection he with he
      rw [← he, add_block]
      exact h a0 rfl
set_option maxRecDepth 100000 in
set_option maxHeartbeats 4000000 in
theorem seg_any (w : World) (m p : Nat) (A : Option Addr) (c : Nat) (l : List Int) (G : Int) (hv : View w p A c l) (hm0 : w.heap[m]? = some (.cells #[.int .i64 4, .int .i64 G, .slice none 0 0, .nilFunc, .slice none 0 0] 93 (0, 0))) (hb : ∀ z ∈ l, 0 ≤ z ∧ z ≤ 255) :
    Calls Try.prog 69 #[.agg #[.pointer (some ⟨p, 0, none⟩)], .pointer (some ⟨m, 0, none⟩)] w fun e w' => ((e = .returned (.tuple #[]) ∧ ∃ (be bn bs bo br bd : Nat) (E S O D : List Int), SegL l E S O D ∧ Seg w' m be bn bs bo br bd p A c l E S O D ∧
      w'.heap[m]? = some (.cells #[.int .i64 4, .int .i64 G, .slice none 0 0, .func (.func 84) #[] #[.pointer (some ⟨be, 0, none⟩), .pointer (some ⟨bn, 0, none⟩), .pointer (some ⟨bs, 0, none⟩), .pointer (some ⟨bo, 0, none⟩), .pointer (some ⟨br, 0, none⟩), .pointer (some ⟨bd, 0, none⟩)], .slice none 0 0] 93 (0, 0))) ∨ Thr e) ∧ Below m w w' := by
  have C0 := Aside0.mk (fun W (hv : View W p A c l) => cu16_any p A c l 6 W hv hb)
  have N0 := Aside0.mk (num2_bound (at_ := 6) hb)
  have HU := Aside0.mk (fun (n : Int) (W : World) (hv : View W p A c l) (hn : 0 ≤ n ∧ n ≤ 65535) => u16s_calls p A c l 14 n W hv hb hn)
  have HS : Aside0 (Sg w w.heap.size m p A c l G (w.alloc (.cells #[.pointer (some ⟨p, 0, none⟩)] 114))) := ⟨⟨blk_new _ _, blk_alloc hm0 _, hv.below (below_alloc (Below.refl _ _) _), (below_alloc (Below.refl w.heap.size w) _).mono (Nat.le_of_lt (blk_lt hm0))⟩⟩
  have HBy := Aside0.mk hb
  have HMS := Aside0.mk (blk_lt hm0)
  generalize num l 6 2 = x at *
  clear hv hm0 hb
  go_enter Try.func69, Try.ntmps69
  go_upto_region 1 with fail
  obtain ⟨g, hg⟩ : ∃ g, g = w.heap.size := ⟨_, rfl⟩
  rw [← hg] at HS HMS ⊢
  clear hg
  generalize w.alloc _ = w1 at *
  have hcg := HS.out.cell
  go_upto_region 2 with (first | (go_at_call 61; ((with_reducible refine (C0.out _ HS.out.view).mono ?_); rintro e w2 ⟨rfl | rfl, hb⟩ <;> (have HS2 := Aside0.mk (HS.out.below hb); clear hb))))
  · have HS3 := Aside0.mk (HS2.out.below (below_alloc (Below.refl _ _) (.cells #[.int .i64 x] 3)))
    have hb4 := blk_new w2 (.cells #[.int .i64 x] 3)
    have hmb : m < w2.heap.size := blk_lt HS2.out.map
    obtain ⟨bn, hbn⟩ : ∃ bn, bn = w2.heap.size := ⟨_, rfl⟩
    rw [← hbn] at hb4 hmb ⊢
    generalize w2.alloc _ = w3 at *
    have HB3 := Aside0.mk hb4
    have HMB := Aside0.mk hmb
    have hx3 : w3.cell? ⟨bn, 0, none⟩ = some (.int .i64 x) := (blk_cell hb4 0).trans rfl
    have hf3 : w3.frozen? ⟨bn, 0, none⟩ = false := blk_frozen hb4 0
    have HKP := Aside0.mk HS3.out.keep
    clear hbn hb4 hmb HS2 HS hcg HMS
    have hx0 := N0.out
    have hd : decide (0 < x) = true ∨ decide (0 < x) = false := by cases decide (0 < x) <;> simp
    rcases hd with hd | hd
    · go_upto_region 5 with (first | (go_at_call 54; refine Calls.must ?_ ?_; (exact ⟨rfl, .inr ⟨51, by decide, rfl⟩, HKP.out⟩); intro hm1) | (go_at_call 54; refine Calls.must ?_ ?_; (exact ⟨rfl, .inr ⟨53, by decide, rfl⟩, HKP.out.setCell (Nat.le_of_lt HMB.out) _⟩); intro hm2))
      have hm2' := of_decide_eq_true hm2
      have hS4 := HS3.out.set (y := x / 2) HB3.out HMB.out
      have hB4 := blk_set HB3.out 0 (.int .i64 (x / 2))
      obtain ⟨n, hn⟩ := Int.eq_ofNat_of_zero_le (show (0 : Int) ≤ x / 2 by omega)
      have hn1 : n ≤ 4096 := by omega
      rw [hn] at hB4 hS4 ⊢
      generalize w3.setCell ⟨bn, 0, none⟩ (.int .i64 (n : Int)) = w4 at *
      have HS4 := Aside0.mk hS4
      have HB4 := Aside0.mk hB4
      have hx4 : w4.cell? ⟨bn, 0, none⟩ = some (.int .i64 (n : Int)) := (blk_cell hB4 0).trans rfl
      have hcg4 := HS4.out.cell
      clear hB4 hS4 hn hx3 hf3 HS3 HB3 HKP hm2' hm2 hm1 hd hx0
      go_upto_region 7 with (first | (go_at_call 70; (with_reducible refine (HU.out _ _ HS4.out.view (by omega)).mono ?_); rintro e w5 ⟨v, xs, E, rfl, hR, hnum, hE, hb⟩; have HS5 := Aside0.mk (HS4.out.below hb); have HB5 := Aside0.mk (blk_below HB4.out hb); have HR5 := Aside0.mk hR; have HN5 := Aside0.mk hnum; clear hR hnum hb hx4 hcg4; rcases hE with ⟨rfl, hlen⟩ | rfl) | (go_at_call 54; refine Calls.must ?_ ?_; (exact ⟨rfl, .inr ⟨51, by decide, rfl⟩, HS5.out.keep⟩); intro hm3))
      · obtain ⟨Ar, cr, rfl⟩ := Kd.R_slice HR5.out
        obtain ⟨_, hcap, hC⟩ := Kd.R_reads' HR5.out
        have q1 : ∀ ad, Ar = some ad → m < ad.block := fun ad e => by
          subst e
          have h1 := (Kd.R_bound HR5.out).1 ad.block rfl
          have h2 := HMB.out
          have h3 := blk_lt HB4.out
          omega
        obtain ⟨i0, hi0, hz0⟩ := Option.map_eq_some_iff.1 infoI
        simp only [Prod.mk.injEq] at hz0
        have k1 := cut_to (P := Try.prog) 47 3 .i64 Try.underlying47 hi0 Ar xs.length cr (n : Int) (by omega) (by omega) hcap
        have k2 := cut_mid (P := Try.prog) 47 3 .i64 .i64 Try.underlying47 hi0 1 hz0.2.1 Ar xs.length cr ((n : Int) + 1) (2 * (n : Int) + 1) (by omega) (by omega) (by omega) hcap
        have k3 := cut_mid (P := Try.prog) 47 3 .i64 .i64 Try.underlying47 hi0 1 hz0.2.1 Ar xs.length cr (2 * (n : Int) + 1) (3 * (n : Int) + 1) (by omega) (by omega) (by omega) hcap
        have k4 := cut_from (P := Try.prog) 47 3 .i64 Try.underlying47 hi0 1 hz0.2.1 Ar xs.length cr (3 * (n : Int) + 1) (by omega) (by omega)
        have r1 := Kd.C_take (m := n) hC (by omega)
        have r2 := Kd.C_mid (c := cr) (lo := ((n : Int) + 1).toNat) (hi := (2 * (n : Int) + 1).toNat) hC (by omega) (by omega) hcap
        have r3 := Kd.C_mid (c := cr) (lo := (2 * (n : Int) + 1).toNat) (hi := (3 * (n : Int) + 1).toNat) hC (by omega) (by omega) hcap
        have r4 := Kd.C_drop (c := cr) (m := (3 * (n : Int) + 1).toNat) hC (by omega) hcap
        have mE : ∀ z ∈ xs.take n, 0 ≤ z ∧ z ≤ 65535 := fun z hz => HN5.out z (List.mem_of_mem_take hz)
        have mS : ∀ z ∈ (xs.take (2 * (n : Int) + 1).toNat).drop ((n : Int) + 1).toNat, 0 ≤ z ∧ z ≤ 65535 := fun z hz => HN5.out z (List.mem_of_mem_take (List.mem_of_mem_drop hz))
        have mD : ∀ z ∈ (xs.take (3 * (n : Int) + 1).toNat).drop (2 * (n : Int) + 1).toNat, 0 ≤ z ∧ z ≤ 65535 := fun z hz => HN5.out z (List.mem_of_mem_take (List.mem_of_mem_drop hz))
        have mO : ∀ z ∈ xs.drop (3 * (n : Int) + 1).toNat, 0 ≤ z ∧ z ≤ 65535 := fun z hz => HN5.out z (List.mem_of_mem_drop hz)
        have lE : (xs.take n).length = n := by rw [List.length_take]; omega
        have lS : ((xs.take (2 * (n : Int) + 1).toNat).drop ((n : Int) + 1).toNat).length = n := by rw [List.length_drop, List.length_take]; omega
        have lD : ((xs.take (3 * (n : Int) + 1).toNat).drop (2 * (n : Int) + 1).toNat).length = n := by rw [List.length_drop, List.length_take]; omega
        have lO : (xs.drop (3 * (n : Int) + 1).toNat).length = n := by rw [List.length_drop]; omega
        rw [show (Kd.int .i64).sz = 1 from rfl] at r2 r3 r4
        have q2 := map_block (q := cr = ((n : Int) + 1).toNat) (k := ((n : Int) + 1).toNat * 1) q1
        have q3 := map_block (q := cr = (2 * (n : Int) + 1).toNat) (k := (2 * (n : Int) + 1).toNat * 1) q1
        have q4 := map_block (q := cr = (3 * (n : Int) + 1).toNat) (k := (3 * (n : Int) + 1).toNat * 1) q1
        rw [lE] at r1
        rw [lS] at r2
        rw [lD] at r3
        rw [lO] at r4
        rw [show ((n : Int)).toNat = n from by omega] at k1
        rw [show (2 * (n : Int) + 1).toNat - ((n : Int) + 1).toNat = n from by omega] at k2
        rw [show (3 * (n : Int) + 1).toNat - (2 * (n : Int) + 1).toNat = n from by omega] at k3
        rw [show xs.length - (3 * (n : Int) + 1).toNat = n from by omega] at k4
        generalize xs.take n = E at *
        generalize (xs.take (2 * (n : Int) + 1).toNat).drop ((n : Int) + 1).toNat = S at *
        generalize (xs.take (3 * (n : Int) + 1).toNat).drop (2 * (n : Int) + 1).toNat = D at *
        generalize xs.drop (3 * (n : Int) + 1).toNat = O at *
        generalize (if cr = ((n : Int) + 1).toNat then Ar else Ar.map (fun x => x.add (((n : Int) + 1).toNat * 1))) = B2 at *
        generalize (if cr = (2 * (n : Int) + 1).toNat then Ar else Ar.map (fun x => x.add ((2 * (n : Int) + 1).toNat * 1))) = B3 at *
        generalize (if cr = (3 * (n : Int) + 1).toNat then Ar else Ar.map (fun x => x.add ((3 * (n : Int) + 1).toNat * 1))) = B4 at *
        generalize cr - ((n : Int) + 1).toNat = c2 at *
        generalize cr - (2 * (n : Int) + 1).toNat = c3 at *
        generalize cr - (3 * (n : Int) + 1).toNat = c4 at *
        have QQ := Aside0.mk (And.intro q1 (And.intro q2 (And.intro q3 q4)))
        clear q1 q2 q3 q4
        have Q1 := Aside0.mk (And.intro r1 (And.intro mE lE))
        have Q2 := Aside0.mk (And.intro r2 (And.intro mS lS))
        have Q3 := Aside0.mk (And.intro r3 (And.intro mD lD))
        have Q4 := Aside0.mk (And.intro r4 (And.intro mO lO))
        generalize xs.length = xl at *
        clear hC r1 r2 r3 r4 mE mS mD mO lE lS lD lO hz0 hi0 HR5 HN5 hcap HB4 HS4 C0 HU N0
        have hx5 : w5.cell? ⟨bn, 0, none⟩ = some (.int .i64 (n : Int)) := (blk_cell HB5.out 0).trans rfl
        have v1 : IntKind.i64.wrap ((n : Int) + 1) = n + 1 := wrap_in _ (by omega)
        have v2 : IntKind.i64.wrap (2 * (n : Int)) = 2 * n := wrap_in _ (by omega)
        have v3 : IntKind.i64.wrap (2 * (n : Int) + 1) = 2 * n + 1 := wrap_in _ (by omega)
        have v4 : IntKind.i64.wrap (3 * (n : Int)) = 3 * n := wrap_in _ (by omega)
        have v5 : IntKind.i64.wrap (3 * (n : Int) + 1) = 3 * n + 1 := wrap_in _ (by omega)
        go_cut [7, 8, 9, 10] from 39 to 61 (fun s7 s8 s9 s10 wx => ∃ b7 b8 b9 b10 : Nat, s7 = .pointer (some ⟨b7, 0, none⟩) ∧ s8 = .pointer (some ⟨b8, 0, none⟩) ∧ s9 = .pointer (some ⟨b9, 0, none⟩) ∧ s10 = .pointer (some ⟨b10, 0, none⟩) ∧ Aside0 (wx.heap[b7]? = some (.cells #[.slice Ar n cr] 47 (0, 0))) ∧ Aside0 (wx.heap[b8]? = some (.cells #[.slice B2 n c2] 47 (0, 0))) ∧ Aside0 (wx.heap[b9]? = some (.cells #[.slice B3 n c3] 47 (0, 0))) ∧ Aside0 (wx.heap[b10]? = some (.cells #[.slice B4 n c4] 47 (0, 0))) ∧ Aside0 (Below w5.heap.size w5 wx))
        case first =>
          go_region_held3 (fun w' => w'.cell? ⟨bn, 0, none⟩ = some (.int .i64 (n : Int))) (exact pw_cell_below (by repeat (first | (with_reducible exact Below.refl _ _) | (with_reducible apply below_alloc) | (with_reducible apply below_drew) | (refine below_set ?_ (by simp <;> omega)))) hx5) (fail)
          all_goals
            go_wp2_with fail
            go_meet
            (refine ⟨_, _, _, _, rfl, rfl, rfl, rfl, ⟨?_⟩, ⟨?_⟩, ⟨?_⟩, ⟨?_⟩, ⟨(four_new _ _ _ _ _).2.2.2.2⟩⟩) <;> first | exact (four_new _ _ _ _ _).1 | exact (four_new _ _ _ _ _).2.1 | exact (four_new _ _ _ _ _).2.2.1 | exact (four_new _ _ _ _ _).2.2.2.1
        case rest =>
          obtain ⟨b7, b8, b9, b10, rfl, rfl, rfl, rfl, H7, H8, H9, H10, HBW⟩ := hcut
          have HS7 := Aside0.mk (HS5.out.below HBW.out)
          obtain ⟨r1, mE, lE⟩ := Q1.out
          obtain ⟨r2, mS, lS⟩ := Q2.out
          obtain ⟨r3, mD, lD⟩ := Q3.out
          obtain ⟨r4, mO, lO⟩ := Q4.out
          subst lE
          have HSG : Aside0 (Seg wc m b7 bn b8 b10 g b9 p A c l E S O D) := ⟨⟨HS7.out.view, HS7.out.blk, blk_below HB5.out HBW.out, ⟨Ar, cr, H7.out, Kd.C_below r1 HBW.out, QQ.out.1⟩, ⟨B2, c2, by rw [lS]; exact H8.out, by rw [lS]; exact Kd.C_below r2 HBW.out, QQ.out.2.1⟩, ⟨B4, c4, by rw [lO]; exact H10.out, by rw [lO]; exact Kd.C_below r4 HBW.out, QQ.out.2.2.2⟩, ⟨B3, c3, by rw [lD]; exact H9.out, by rw [lD]; exact Kd.C_below r3 HBW.out, QQ.out.2.2.1⟩⟩⟩
          have HNUM := Aside0.mk (And.intro mS (And.intro mO mD))
          have HLS := Aside0.mk (And.intro lS (And.intro lO lD))
          have HKW := Aside0.mk HS7.out.keep
          have HMM := Aside0.mk HS7.out.map
          have R1 := Aside0.mk (Kd.C_below r1 HBW.out)
          have R2 := Aside0.mk (Kd.C_below r2 HBW.out)
          clear r1 r2 r3 r4 mE mS mD mO lS lD lO k1 k2 k3 k4 v1 v2 v3 v4 v5 Q1 Q2 Q3 Q4 HS5 HB5 hx5 HS7 H9 H10 hlen HBW
          have HB0 : Aside0 (Below wc.heap.size wc wc) := ⟨Below.refl _ _⟩
          have hcn : wc.cell? ⟨bn, 0, none⟩ = some (.int .i64 (E.length : Int)) := (blk_cell HSG.out.cnt 0).trans rfl
          go_wp2_with fail
          clear hcn
          go_loopw [63] (fun s63 wr => ∃ i : Nat, s63 = .int .i64 (i : Int) ∧ Aside0 (i ≤ E.length ∧ ∀ a b : Nat, a ≤ b → b < i → rd E a ≤ rd E b) ∧ Aside0 (Below wc.heap.size wc wr)) (fun s63 _ => E.length - (intOf s63).toNat)
          case atStart => exact ⟨0, rfl, ⟨Nat.zero_le _, fun a b _ hb => by omega⟩, HB0⟩
          case round =>
            obtain ⟨i, rfl, HI, HBR⟩ := hrel
            have HKR := Aside0.mk (below_then HKW.out (Nat.le_of_lt (blk_lt HMM.out)) HBR.out)
            by_cases hlt : i < E.length
            · have hE7 : wr.cell? ⟨b7, 0, none⟩ = some (.slice Ar E.length cr) := (blk_cell (blk_below H7.out HBR.out) 0).trans rfl
              have hE8 : wr.cell? ⟨b8, 0, none⟩ = some (.slice B2 E.length c2) := (blk_cell (blk_below H8.out HBR.out) 0).trans rfl
              have rE := Kd.C_below R1.out HBR.out
              have rS : Kd.C (Kd.int .i64) wr B2 S.length S := by
                have h := Kd.C_below R2.out HBR.out
                rwa [← HLS.out.1] at h
              have lS := HLS.out.1
              obtain ⟨ad, rfl, hx⟩ := Kd.at_int rE (i : Int) (by omega) (by omega)
              obtain ⟨ad2, rfl, hx2⟩ := Kd.at_int rS (i : Int) (by omega) (by omega)
              rw [Int.toNat_natCast] at hx hx2
              have p0 : (0 : Int) ≤ i := by omega
              have p1 : (i : Int) < E.length := by omega
              have d0 : decide ((i : Int) < (E.length : Int)) = true := decide_eq_true p1
              have HLT := Aside0.mk hlt
              by_cases hi0 : i = 0
              · have e0 : ((i : Int) == 0) = true := by rw [beq_iff_eq]; omega
                have HI0 := Aside0.mk hi0
                generalize rd E (i : Int) = x1 at *
                generalize rd S (i : Int) = x2 at *
                clear rE rS lS hlt hi0
                go_wp2_with fail
                refine wp_region_quiet_tail 25 (by kernel_rfl) (by kernel_rfl) ?_
                simp only [List.take_succ_cons, List.take_zero, List.drop_succ_cons, List.drop_zero]
                repeat (first | go_big_quiet_skip | (go_big_quiet_want; go_big_quiet_op; go_big_quiet_on))
                refine wpQuiet_nil ?_
                all_goals
                  go_wp2_with (go_at_call 54; refine Calls.must ?_ ?_; (exact ⟨rfl, .inr ⟨51, by decide, rfl⟩, below_drew1 HKR.out⟩); intro hm; have HMM1 := Aside0.mk hm; clear hm)
                  go_roundw
                  case rel =>
                    refine ⟨i + 1, by go_num, ⟨HLT.out, fun a b hab hb => ?_⟩, ⟨below_drew1 HBR.out⟩⟩
                    have := HI0.out
                    obtain rfl : a = 0 := by omega
                    obtain rfl : b = 0 := by omega
                    exact Int.le_refl _
                  case measure => have := HLT.out; simp [intOf]; omega
              · obtain ⟨j, hj⟩ : ∃ j, i = j + 1 := ⟨i - 1, by omega⟩
                obtain ⟨ad', eA, hx3⟩ := Kd.at_int rE (j : Int) (by omega) (by omega)
                obtain rfl : ad = ad' := by injection eA
                rw [Int.toNat_natCast] at hx3
                have e0 : ((i : Int) == 0) = false := by rw [beq_eq_false_iff_ne]; omega
                have v1 : IntKind.i64.wrap ((i : Int) - 1) = (j : Int) := by rw [wrap_in _ (by have := HI.out; omega)]; omega
                have p2 : (0 : Int) ≤ j := by omega
                have p3 : (j : Int) < E.length := by omega
                have HX := Aside0.mk (show rd E ((j : Nat) : Int) = rd E ((j : Nat) : Int) from rfl)
                have hd : decide (rd E (j : Int) < rd E (i : Int)) = true ∨ decide (rd E (j : Int) < rd E (i : Int)) = false := by cases decide (rd E (j : Int) < rd E (i : Int)) <;> simp
                obtain ⟨x1, hx1⟩ : ∃ x1, x1 = rd E (i : Int) := ⟨_, rfl⟩
                obtain ⟨x3, hx3e⟩ : ∃ x3, x3 = rd E (j : Int) := ⟨_, rfl⟩
                rw [← hx1] at hx hd
                rw [← hx3e] at hx3 hd
                have HX1 := Aside0.mk hx1
                have HX3 := Aside0.mk hx3e
                clear hx1 hx3e HX
                generalize rd S (i : Int) = x2 at *
                have HJ := Aside0.mk hj
                clear rE rS lS hlt hi0 hj
                rcases hd with hd | hd
                all_goals
                  have HD := Aside0.mk hd
                  go_wp2_with fail
                  refine wp_region_quiet_tail 25 (by kernel_rfl) (by kernel_rfl) ?_
                  simp only [List.take_succ_cons, List.take_zero, List.drop_succ_cons, List.drop_zero]
                  repeat (first | go_big_quiet_skip | (go_big_quiet_want; go_big_quiet_op; go_big_quiet_on))
                  refine wpQuiet_nil ?_
                  all_goals
                    go_wp2_with (go_at_call 54; refine Calls.must ?_ ?_; (exact ⟨rfl, .inr ⟨51, by decide, rfl⟩, below_drew1 HKR.out⟩); intro hm; have HMM1 := Aside0.mk hm; clear hm)
                    go_roundw
                    case rel =>
                      refine ⟨i + 1, by go_num, ⟨HLT.out, fun a b hab hb => ?_⟩, ⟨below_drew1 HBR.out⟩⟩
                      first
                      | exact absurd HMM1.out (by decide)
                      | (have h1 := of_decide_eq_true HD.out
                         have h2 := HI.out.2
                         have h3 := HX1.out
                         have h4 := HX3.out
                         have h5 := HJ.out
                         by_cases hbj : b = i
                         · rw [hbj]
                           by_cases haj : a = i
                           · rw [haj]; exact Int.le_refl _
                           · have := h2 a j (by omega) (by omega)
                             omega
                         · exact h2 a b hab (by omega))
                    case measure => have := HLT.out; simp [intOf]; omega
            · obtain rfl : i = E.length := by have := HI.out.1; omega
              have d0 : decide ((E.length : Int) < (E.length : Int)) = false := decide_eq_false (by omega)
              have hmr := blk_below HMM.out HBR.out
              have hcm : wr.cell? ⟨m, 3, none⟩ = some .nilFunc := (blk_cell hmr 3).trans rfl
              have hfm := blk_frozen hmr 3
              have hmf : ∀ (fn : Fn) (first cap : Array Value) (w : World), (Instr.makeFunc fn first cap).run Try.prog w = .ok (.func fn first cap) w := fun _ _ _ _ => rfl
              have HMR := Aside0.mk hmr
              clear hmr
              go_wp2
              go_returns
              refine ⟨.inl ⟨rfl, b7, bn, b8, b10, g, b9, E, S, O, D, ⟨HBy.out, hn1, HLS.out.1, HLS.out.2.1, HLS.out.2.2, HI.out.2, HNUM.out.1, HNUM.out.2.1, HNUM.out.2.2⟩, (HSG.out.below HBR.out).setm HMR.out (by simp) (by simp) (by simp) 3 _, blk_set HMR.out 3 _⟩, HKR.out.setCell (Nat.le_refl _) _⟩
      · exact absurd hm3 (by decide)
    · go_wp2_with (go_at_call 54; refine Calls.must ?_ ?_; (exact ⟨rfl, .inr ⟨51, by decide, rfl⟩, HKP.out⟩); intro hm1; exact absurd hm1 (by decide))
  · exact ⟨rfl, .inr ⟨51, by decide, rfl⟩, HS2.out.keep⟩
end Go.Proofs.Ytebmfbfmdbimdaa.F
