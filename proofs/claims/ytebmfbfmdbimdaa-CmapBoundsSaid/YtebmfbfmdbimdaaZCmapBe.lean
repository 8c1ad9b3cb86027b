/- Package cmap, whatever the bytes: a subtable of form 6 (CmapBounds). -/
import Derived.Test.YtebmfbfmdbimdaaZCmapBd
namespace Go.Proofs.Ytebmfbfmdbimdaa.F
open Go.RowKit Go.Proofs.YtebmfbfmdbimdaaW.PrintWords Go.Proofs.YtebmfbfmdbimdaaW.PrintLast Go.Proofs.YtebmfbfmdbimdaaW.PrintMore
set_option linter.unusedVariables false
set_option linter.unusedSimpArgs false
/-- A row of numbers, as it was where a cell of a block that holds no numbers is written. -/
theorem C_tag {W : World} {A1 : Option Addr} {L : List Int} {b : Nat} {cs : Array Value} {t : TypeId} (h : Kd.C (Kd.int .i64) W A1 L.length L) (hb : W.heap[b]? = some (.cells cs t (0, 0))) (hcs : ∀ (i : Nat) (z : Int), cs[i]? ≠ some (.int .i64 z)) (i : Nat) (v : Value) : Kd.C (Kd.int .i64) (W.setCell ⟨b, i, none⟩ v) A1 L.length L := by
  refine C_set h hb (fun ad he hn hg => ?_) i v
  obtain ⟨ad', e, hx⟩ := Kd.at_int h (0 : Int) (by omega) (by omega)
  have hbl : (ad'.add ((0 : Int).toNat)).block = b := by
    rw [he] at e
    injection e with e
    rw [← e, ← hg]
    exact add_block _ _
  unfold World.cell? at hx
  rw [hbl, hb] at hx
  simp only at hx
  split at hx
  · cases hx
  · exact hcs _ _ hx
section
variable {w1 w' w'' : World} {g p : Nat}
theorem s6_keep (x : Aside0 (Below w1.heap.size w1 w')) (hc : w1.cell? ⟨g, 0, none⟩ = some (.pointer (some ⟨p, 0, none⟩))) (hb : Below w'.heap.size w' w'') : w''.cell? ⟨g, 0, none⟩ = some (.pointer (some ⟨p, 0, none⟩)) ∧ Aside0 (Below w1.heap.size w1 w'') :=
  ⟨pw_cell_below (below_then x.out x.out.size hb) hc, ⟨below_then x.out x.out.size hb⟩⟩
theorem s6_keep2 (hc : w1.cell? ⟨g, 0, none⟩ = some (.pointer (some ⟨p, 0, none⟩))) (x : w'.cell? ⟨g, 0, none⟩ = some (.pointer (some ⟨p, 0, none⟩)) ∧ Aside0 (Below w1.heap.size w1 w')) (hb : Below w'.heap.size w' w'') : w''.cell? ⟨g, 0, none⟩ = some (.pointer (some ⟨p, 0, none⟩)) ∧ Aside0 (Below w1.heap.size w1 w'') := s6_keep x.2 hc hb
theorem s6_set (hc : w1.cell? ⟨g, 0, none⟩ = some (.pointer (some ⟨p, 0, none⟩))) (hb : Below w1.heap.size w1 w'') : w''.cell? ⟨g, 0, none⟩ = some (.pointer (some ⟨p, 0, none⟩)) ∧ Aside0 (Below w1.heap.size w1 w'') := ⟨pw_cell_below hb hc, ⟨hb⟩⟩
theorem s6_bel (x : w'.cell? ⟨g, 0, none⟩ = some (.pointer (some ⟨p, 0, none⟩)) ∧ Aside0 (Below w1.heap.size w1 w')) : Below w1.heap.size w1 w' := x.2.out
theorem s6_new {o : Obj} (x : w'.cell? ⟨g, 0, none⟩ = some (.pointer (some ⟨p, 0, none⟩)) ∧ Aside0 (Below w1.heap.size w1 w')) (hb : Below (w'.alloc o).heap.size (w'.alloc o) w'') : w1.heap.size ≤ w'.heap.size ∧ w''.heap[w'.heap.size]? = some o := ⟨x.2.out.size, blk_below (blk_new _ _) hb⟩
theorem s6_new3 {o : Obj} (hb : Below ((w1.alloc o).drew).heap.size ((w1.alloc o).drew) w'') : w1.heap.size ≤ w1.heap.size ∧ w''.heap[w1.heap.size]? = some o := ⟨Nat.le_refl _, blk_below (w := (w1.alloc o).drew) (blk_new w1 o) hb⟩
theorem s6_new2 {b : Nat} {o : Obj} (x : w1.heap.size ≤ b ∧ w'.heap[b]? = some o) (hb : Below w'.heap.size w' w'') : w1.heap.size ≤ b ∧ w''.heap[b]? = some o := ⟨x.1, blk_below x.2 hb⟩
end
set_option maxRecDepth 100000 in
set_option maxHeartbeats 4000000 in
theorem subt_6 (w : World) (m p : Nat) (A : Option Addr) (c : Nat) (l : List Int) (G : Int) (hv : View w p A c l) (hm0 : w.heap[m]? = some (.cells #[.int .i64 0, .int .i64 G, .slice none 0 0, .nilFunc, .slice none 0 0] 93 (0, 0))) (hb : ∀ z ∈ l, 0 ≤ z ∧ z ≤ 255) (hl : l.length < 140737488355328)
    (h0 : partOk l 0 2) (hf : num l 0 2 = 6) :
    Calls Try.prog 57 #[.agg #[.pointer (some ⟨p, 0, none⟩)], .pointer (some ⟨m, 0, none⟩)] w fun e w' => ((e = .returned (.tuple #[]) ∧ SubOk m p A c l G w') ∨ Thr e) ∧ Below m w w' := by
  have C0 := Aside0.mk (fun W (hv : View W p A c l) => cu16_ok p A c l 0 W hv hb h0)
  rw [hf] at C0
  obtain ⟨f, hff⟩ : ∃ f : Int, f = 6 := ⟨_, rfl⟩
  rw [← hff] at C0
  have HFF := Aside0.mk hff
  have C6 := Aside0.mk (fun W (hv : View W p A c l) => cu16_any p A c l 6 W hv hb)
  have C8 := Aside0.mk (fun W (hv : View W p A c l) => cu16_any p A c l 8 W hv hb)
  have HU := Aside0.mk (fun (n : Int) (W : World) (hv : View W p A c l) (hn : 0 ≤ n ∧ n ≤ 65535) => u16s_calls p A c l 10 n W hv hb hn)
  have N6 := Aside0.mk (num2_bound (at_ := 6) hb)
  have N8 := Aside0.mk (num2_bound (at_ := 8) hb)
  generalize num l 6 2 = x6 at *
  generalize num l 8 2 = x8 at *
  have HV := Aside0.mk hv
  have HM := Aside0.mk hm0
  have HBy := Aside0.mk hb
  have HLL := Aside0.mk hl
  have hmf : ∀ (fn : Fn) (first cap : Array Value) (w : World), (Instr.makeFunc fn first cap).run Try.prog w = .ok (.func fn first cap) w := fun _ _ _ _ => rfl
  clear hv hm0 hb hl h0 hf hff
  go_enter Try.func57, Try.ntmps57
  go_upto_region 1 with fail
  have hs : Sb w w.heap.size (w.heap.size + 1) m p A c l 0 G ((w.alloc (.cells #[.pointer (some ⟨p, 0, none⟩)] 114)).alloc (.cells #[.pointer (some ⟨m, 0, none⟩)] 57)) := by
    have hq : ((w.alloc (.cells #[.pointer (some ⟨p, 0, none⟩)] 114)).alloc (.cells #[.pointer (some ⟨m, 0, none⟩)] 57)).heap[w.heap.size + 1]? = some (.cells #[.pointer (some ⟨m, 0, none⟩)] 57 (0, 0)) := by
      have := blk_new (w.alloc (.cells #[.pointer (some ⟨p, 0, none⟩)] 114)) (.cells #[.pointer (some ⟨m, 0, none⟩)] 57)
      rwa [show (w.alloc (.cells #[.pointer (some ⟨p, 0, none⟩)] 114)).heap.size = w.heap.size + 1 from by simp] at this
    have hbw := below_alloc (below_alloc (Below.refl w.heap.size w) (.cells #[.pointer (some ⟨p, 0, none⟩)] 114)) (.cells #[.pointer (some ⟨m, 0, none⟩)] 57)
    exact ⟨blk_alloc (blk_new _ _) _, hq, blk_below HM.out hbw, HV.out.below hbw, hbw.mono (Nat.le_of_lt (blk_lt HM.out))⟩
  have hgs : w.heap.size ≤ w.heap.size ∧ w.heap.size ≤ w.heap.size + 1 := ⟨Nat.le_refl _, Nat.le_succ _⟩
  obtain ⟨g, hg⟩ : ∃ g, g = w.heap.size := ⟨_, rfl⟩
  obtain ⟨h, hh⟩ : ∃ h, h = w.heap.size + 1 := ⟨_, rfl⟩
  rw [← hh, ← hg] at hs ⊢
  generalize (w.alloc (.cells #[.pointer (some ⟨p, 0, none⟩)] 114)).alloc (.cells #[.pointer (some ⟨m, 0, none⟩)] 57) = w1 at *
  have HS := Aside0.mk hs
  have HGH : Aside0 (m < g ∧ m < h) := ⟨by have := blk_lt HM.out; omega⟩
  clear hs hgs hg hh HV HM
  go_cut [] from 10 to 14 (fun wx => Aside0 (Sb w g h m p A c l f G wx))
  case first =>
    have hcg := (blk_cell HS.out.blk 0).trans rfl
    have hch := (blk_cell HS.out.ptr 0).trans rfl
    have hcm := (blk_cell HS.out.map 0).trans rfl
    have hfm := blk_frozen HS.out.map 0
    go_region_with (first | (go_at_call 61; ((with_reducible refine (C0.out _ (HS.out.below (below_drew (Below.refl _ _))).view).mono ?_); rintro e w5 ⟨rfl, hb⟩; have HS5 := Aside0.mk (HS.out.below (Below.trans (below_drew (Below.refl _ _)) hb)); have hch5 := (blk_cell HS5.out.ptr 0).trans rfl; have hcm5 := (blk_cell HS5.out.map 0).trans rfl; have hfm5 := blk_frozen HS5.out.map 0; clear hb)))
    all_goals
      go_wp2_with fail
      go_meet
      exact ⟨HS5.out.form f⟩
  case rest =>
    have HS := hcut
    have hcg : wc.cell? ⟨g, 0, none⟩ = some (.pointer (some ⟨p, 0, none⟩)) := (blk_cell HS.out.blk 0).trans rfl
    have hch : wc.cell? ⟨h, 0, none⟩ = some (.pointer (some ⟨m, 0, none⟩)) := (blk_cell HS.out.ptr 0).trans rfl
    have hcm : wc.cell? ⟨m, 0, none⟩ = some (.int .i64 f) := (blk_cell HS.out.map 0).trans rfl
    clear hcut C0
    obtain rfl := HFF.out
    go_upto_region 13 with (first | (go_at_call 61; ((with_reducible refine (C6.out _ HS.out.view).mono ?_); rintro e w5 ⟨rfl | rfl, hb⟩ <;> (have HS5 := Aside0.mk (HS.out.below hb); clear hb))))
    · have HS6 := Aside0.mk (HS5.out.below (below_alloc (Below.refl _ _) (.cells #[.int .i64 x6] 3)))
      have hb6 := blk_new w5 (.cells #[.int .i64 x6] 3)
      obtain ⟨b7, hb7⟩ : ∃ b7, b7 = w5.heap.size := ⟨_, rfl⟩
      rw [← hb7] at hb6 ⊢
      clear HS HS5 hcg hch hcm C6 hb7
      generalize w5.alloc _ = w1 at *
      have HB6 := Aside0.mk hb6
      have hcg : w1.cell? ⟨g, 0, none⟩ = some (.pointer (some ⟨p, 0, none⟩)) := (blk_cell HS6.out.blk 0).trans rfl
      have HCG := Aside0.mk hcg
      have HB0 : Aside0 (Below w1.heap.size w1 w1) := ⟨Below.refl _ _⟩
      clear hb6 hcg
      go_cut [8, 9] from 47 to 54 (fun s8 s9 wx => ∃ (b8 : Nat) (A8 : Option Addr) (c8 : Nat) (xs : List Int) (E : Int), s8 = .pointer (some ⟨b8, 0, none⟩) ∧ s9 = .int .i64 E ∧ Aside0 (wx.heap[b8]? = some (.cells #[.slice A8 xs.length c8] 47 (0, 0))) ∧ Aside0 (Kd.C (Kd.int .i64) wx A8 xs.length xs) ∧ Aside0 ((∀ z ∈ xs, 0 ≤ z ∧ z ≤ 65535) ∧ ((E = 0 ∧ (xs.length : Int) = x8) ∨ E = 21)) ∧ Aside0 (Below w1.heap.size w1 wx))
      case first =>
        go_region_held2 (fun w' => w'.cell? ⟨g, 0, none⟩ = some (.pointer (some ⟨p, 0, none⟩)) ∧ Aside0 (Below w1.heap.size w1 w'))
          (first | exact s6_keep HB0 HCG.out (below_drew (Below.refl _ _)) | assumption | exact s6_keep2 (w1 := w1) (g := g) (p := p) HCG.out (by assumption) (below_alloc (Below.refl _ _) _) | exact s6_set HCG.out (below_set (s6_bel (w1 := w1) (g := g) (p := p) (by assumption)) HZZ.out.1))
          (first | (go_at_call 61; (with_reducible refine Calls.either (C8.out _ (HS6.out.below (s6_bel (w1 := w1) (g := g) (p := p) (by assumption))).view) ?_ ?_); (intro w5 hb; exact ⟨rfl, .inr ⟨51, by decide, rfl⟩, ((HS6.out.below (s6_bel (w1 := w1) (g := g) (p := p) (by assumption))).below hb).keep⟩); intro w5 hb; have hS5 := s6_keep2 (w1 := w1) (g := g) (p := p) HCG.out (by assumption) hb; (first | (have hz := s6_new3 (w1 := w1) hb; have z0 := blk_cell hz.2 0; have y0 := blk_frozen hz.2 0; have HZZ := Aside0.mk hz; clear hz) | (have hz := s6_new (w1 := w1) (g := g) (p := p) (by assumption) hb; have z0 := blk_cell hz.2 0; have y0 := blk_frozen hz.2 0; have HZZ := Aside0.mk hz; clear hz) | (have hz := s6_new2 (w1 := w1) HZZ.out hb; have z0 := blk_cell hz.2 0; have y0 := blk_frozen hz.2 0; have HZZ := Aside0.mk hz; clear hz) | skip); clear hb) | (go_at_call 70; (with_reducible refine (HU.out _ _ (HS6.out.below (s6_bel (w1 := w1) (g := g) (p := p) (by assumption))).view N8.out).mono ?_); rintro e w5 ⟨v5, xs, E, rfl, hR, hnum, hE, hb⟩; obtain ⟨A8, c8, rfl⟩ := Kd.R_slice hR; have HR5 := Aside0.mk (Kd.R_reads' hR).2.2; have HE5 := Aside0.mk (And.intro hnum hE); have hS5 := s6_keep2 (w1 := w1) (g := g) (p := p) HCG.out (by assumption) hb; (first | (have hz := s6_new3 (w1 := w1) hb; have z0 := blk_cell hz.2 0; have y0 := blk_frozen hz.2 0; have HZZ := Aside0.mk hz; clear hz) | (have hz := s6_new (w1 := w1) (g := g) (p := p) (by assumption) hb; have z0 := blk_cell hz.2 0; have y0 := blk_frozen hz.2 0; have HZZ := Aside0.mk hz; clear hz) | (have hz := s6_new2 (w1 := w1) HZZ.out hb; have z0 := blk_cell hz.2 0; have y0 := blk_frozen hz.2 0; have HZZ := Aside0.mk hz; clear hz) | skip); clear hb hR hnum hE))
        all_goals
          go_wp2_with fail
          go_meet
          refine ⟨_, A8, c8, xs, E, rfl, rfl, ⟨?_⟩, ⟨?_⟩, HE5, ⟨(s6_bel (w1 := w1) (g := g) (p := p) (by assumption))⟩⟩
          · first | (with_reducible exact blk_new _ _) | exact blk_set HZZ.out.2 0 _
          · first | (with_reducible exact Kd.C_below HR5.out (below_alloc (Below.refl _ _) _)) | exact C_tag HR5.out HZZ.out.2 (by intro i z; rcases i with _ | i <;> simp) 0 _
      case rest =>
        obtain ⟨b8, A8, c8, xs, E, rfl, rfl, H8, HR8, HE8, HBW⟩ := hcut
        have HS5 := Aside0.mk (HS6.out.below HBW.out)
        have HB7 := Aside0.mk (blk_below HB6.out HBW.out)
        have hE := HE8.out.2
        have hch5 : wc.cell? ⟨h, 0, none⟩ = some (.pointer (some ⟨m, 0, none⟩)) := (blk_cell HS5.out.ptr 0).trans rfl
        have hc8 : wc.cell? ⟨b8, 0, none⟩ = some (.slice A8 xs.length c8) := (blk_cell H8.out 0).trans rfl
        clear HS6 HB6 HBW
        rcases hE with ⟨rfl, hxl⟩ | rfl
        · have HXL : Aside0 (xs.length ≤ 65536) := ⟨by have := N8.out; omega⟩
          clear hxl
          go_upto_region 15 with (first | (go_at_call 54; (with_reducible refine (must_ok 51 _).mono ?_); rintro e w6 ⟨rfl, rfl⟩))
          go_region_with (first | (go_at_call 67; ((with_reducible refine Calls.thrown (rise6 (blk_below HB7.out (below_drew (Below.refl _ _))) (blk_below H8.out (below_drew (Below.refl _ _))) (Kd.C_below HR8.out (below_drew (Below.refl _ _))) HE8.out.1 N6.out HXL.out) ?_ ?_); (intro cc w6 hcc hb; exact ⟨rfl, .inr ⟨cc, hcc, rfl⟩, (HS5.out.below (Below.trans (below_drew (Below.refl _ _)) hb)).keep⟩); intro v w6 hg hb; obtain ⟨L, t, ho, hLn, hG⟩ := hg; obtain ⟨Av, cv, rfl⟩ := own_val ho; have HS6 := Aside0.mk (HS5.out.below (Below.trans (below_drew (Below.refl _ _)) hb)); have HO6 := Aside0.mk ho; have HG6 := Aside0.mk (And.intro hLn hG); have hch6 : w6.cell? ⟨h, 0, none⟩ = some (.pointer (some ⟨m, 0, none⟩)) := (blk_cell HS6.out.ptr 0).trans rfl; have hcm6 : w6.cell? ⟨m, 2, none⟩ = some (.slice none 0 0) := (blk_cell HS6.out.map 2).trans rfl; have hfm6 := blk_frozen HS6.out.map 2; clear hb ho hLn hG)))
          all_goals
            go_wp2
            go_returns
            exact ⟨.inl ⟨rfl, .inl ⟨_, _, _, L, t, own_setCell HO6.out (own_ne HO6.out HS6.out.map (by decide)) _, by have := HG6.out.1; have := HXL.out; omega, HG6.out.2, blk_set HS6.out.map 2 _⟩⟩, HS6.out.keep.setCell (Nat.le_refl _) _⟩
        · go_wp2_with (first | (go_at_call 54; (with_reducible refine (must_no 51 _).mono ?_); rintro e w6 ⟨rfl, rfl⟩))
          exact ⟨rfl, .inr ⟨51, by decide, rfl⟩, HS5.out.keep⟩
    · exact ⟨rfl, .inr ⟨51, by decide, rfl⟩, HS5.out.keep⟩
end Go.Proofs.Ytebmfbfmdbimdaa.F
