/- Package cmap: a subtable of form 12 or 13, walked. -/
import Derived.Test.YtebmfbfmdbimdaaZCmap5
import Derived.Deep.RegionWith
import Derived.Deep.CutBlock
import Derived.Deep.DeepCutAuto
namespace Go.Proofs.Ytebmfbfmdbimdaa.F
open Go.RowKit Go.Proofs.YtebmfbfmdbimdaaW.PrintWords Go.Proofs.YtebmfbfmdbimdaaW.PrintLast Go.Proofs.YtebmfbfmdbimdaaW.PrintMore Go.Proofs.Ytebmfbfmdbimdaa.rowQ
set_option linter.unusedVariables false
set_option linter.unusedSimpArgs false
theorem own_val {w : World} {base : Nat} {e : TypeId} {q n : Nat} {v : Value} {xs : List Value} (h : w.ownsRow base e q v n xs) : ∃ A c, v = .slice A n c := by
  rcases h.2 with ⟨rfl, rfl⟩ | ⟨g, cap, cur, rfl, _⟩
  · exact ⟨_, _, rfl⟩
  · exact ⟨_, _, rfl⟩
theorem own_low {w : World} {base b2 : Nat} {e : TypeId} {q n : Nat} {v : Value} {xs : List Value} (h : w.ownsRow base e q v n xs) (hb : b2 ≤ base) : w.ownsRow b2 e q v n xs := by
  refine ⟨h.1, ?_⟩
  rcases h.2 with h2 | ⟨g, cap, cur, h1, h2, h3⟩
  · exact .inl h2
  · exact .inr ⟨g, cap, cur, h1, Nat.le_trans hb h2, h3⟩
/-- What subtable finds and keeps, behind the form's store. -/
structure Sb (w : World) (g h m p : Nat) (A : Option Addr) (c : Nat) (l : List Int) (f G : Int) (wx : World) : Prop where
  blk : wx.heap[g]? = some (.cells #[.pointer (some ⟨p, 0, none⟩)] 114 (0, 0))
  ptr : wx.heap[h]? = some (.cells #[.pointer (some ⟨m, 0, none⟩)] 57 (0, 0))
  map : wx.heap[m]? = some (.cells #[.int .i64 f, .int .i64 G, .slice none 0 0, .nilFunc, .slice none 0 0] 93 (0, 0))
  view : View wx p A c l
  keep : Below m w wx
theorem Sb.below {w : World} {g h m p : Nat} {A : Option Addr} {c : Nat} {l : List Int} {f G : Int} {wx wy : World} (s : Sb w g h m p A c l f G wx) (hb : Below wx.heap.size wx wy) : Sb w g h m p A c l f G wy :=
  ⟨blk_below s.blk hb, blk_below s.ptr hb, blk_below s.map hb, s.view.below hb, below_then s.keep (Nat.le_of_lt (blk_lt s.map)) hb⟩
theorem map_u8 {f G : Int} {v : Value} (hv : ∀ z, v ≠ .int .u8 z) : ∀ (i : Nat) (z : Int), (#[.int .i64 f, .int .i64 G, v, .nilFunc, .slice none 0 0] : Array Value)[i]? ≠ some (.int .u8 z) := by
  intro i z
  obtain h | h | h | h | h | h : i = 0 ∨ i = 1 ∨ i = 2 ∨ i = 3 ∨ i = 4 ∨ 5 ≤ i := by omega
  all_goals first | (subst h; simp [hv]) | (rw [Array.getElem?_eq_none (by simpa using h)]; simp)
theorem Sb.form {w : World} {g h m p : Nat} {A : Option Addr} {c : Nat} {l : List Int} {G : Int} {wx : World} (s : Sb w g h m p A c l 0 G wx) (f : Int) : Sb w g h m p A c l f G (wx.setCell ⟨m, 0, none⟩ (.int .i64 f)) := by
  have hg : g ≠ m := blk_ne s.blk s.map (by decide)
  have hh : h ≠ m := blk_ne s.ptr s.map (by decide)
  have hp : p ≠ m := blk_ne s.view.blk s.map (by decide)
  exact ⟨blk_far s.blk hg _, blk_far s.ptr hh _, blk_set s.map 0 _, s.view.set s.map hp (map_u8 (by simp)) 0 _, s.keep.setCell (Nat.le_refl _) _⟩
set_option maxRecDepth 100000 in
set_option maxHeartbeats 4000000 in
theorem subtable_ok (w : World) (m p : Nat) (A : Option Addr) (c : Nat) (l : List Int) (f G : Int) (n : Nat) (hv : View w p A c l) (hm0 : w.heap[m]? = some (.cells #[.int .i64 0, .int .i64 G, .slice none 0 0, .nilFunc, .slice none 0 0] 93 (0, 0))) (hb : ∀ z ∈ l, 0 ≤ z ∧ z ≤ 255)
    (hf : num l 0 2 = f) (hff : f = 12 ∨ f = 13) (hn0 : num l 12 4 = n) (hn : n ≤ 4096) (hl : 16 + 12 * n ≤ l.length) (hm : ∀ i, i < n → num l (20 + 12 * i) 4 ≤ 1114111)
    (hr : ∀ i, i < n → num l (16 + 12 * i) 4 ≤ num l (20 + 12 * i) 4 ∧ prevTo l i < num l (16 + 12 * i) 4) :
    Calls Try.prog 57 #[.agg #[.pointer (some ⟨p, 0, none⟩)], .pointer (some ⟨m, 0, none⟩)] w fun e w' => e = .returned (.tuple #[]) ∧ ∃ v : Value, w'.ownsRow w.heap.size 95 4 v n ((grps l f n).map (Value.int .i64)) ∧
      w'.heap[m]? = some (.cells #[.int .i64 f, .int .i64 G, v, .nilFunc, .slice none 0 0] 93 (0, 0)) ∧ Below m w w' := by
  have C0 := Aside0.mk (fun W (hv : View W p A c l) => cu16_ok p A c l 0 W hv hb ⟨by omega, by omega, by omega, by omega⟩)
  have HV := Aside0.mk hv
  have HM := Aside0.mk hm0
  rw [hf] at C0
  have C1 := Aside0.mk (fun W (hv : View W p A c l) => count_ok p A c l 12 W hv hb ⟨by omega, by omega, by omega, by omega⟩ (by omega))
  rw [hn0] at C1
  have C2 := Aside0.mk (fun (W : World) (g h : Nat) (xx : Cw W g h m p A c l f G W) => rising3_ok W g h m p A c l f G n xx hb hn hl hm (by omega) hr)
  have hmf : ∀ (fn : Fn) (first cap : Array Value) (w : World), (Instr.makeFunc fn first cap).run Try.prog w = .ok (.func fn first cap) w := fun _ _ _ _ => rfl
  have HFF := Aside0.mk hff
  clear hv hm0 hf hb hn0 hl hm hr hff
  go_enter Try.func57, Try.ntmps57
  go_upto_region 1 with fail
  have hs : Sb w w.heap.size (w.heap.size + 1) m p A c l 0 G ((w.alloc (.cells #[.pointer (some ⟨p, 0, none⟩)] 114)).alloc (.cells #[.pointer (some ⟨m, 0, none⟩)] 57)) := by
    have hq : ((w.alloc (.cells #[.pointer (some ⟨p, 0, none⟩)] 114)).alloc (.cells #[.pointer (some ⟨m, 0, none⟩)] 57)).heap[w.heap.size + 1]? = some (.cells #[.pointer (some ⟨m, 0, none⟩)] 57 (0, 0)) := by
      have := blk_new (w.alloc (.cells #[.pointer (some ⟨p, 0, none⟩)] 114)) (.cells #[.pointer (some ⟨m, 0, none⟩)] 57)
      rwa [show (w.alloc (.cells #[.pointer (some ⟨p, 0, none⟩)] 114)).heap.size = w.heap.size + 1 from by simp] at this
    have hbw := below_alloc (below_alloc (Below.refl w.heap.size w) (.cells #[.pointer (some ⟨p, 0, none⟩)] 114)) (.cells #[.pointer (some ⟨m, 0, none⟩)] 57)
    exact ⟨blk_alloc (blk_new _ _) _, hq, blk_below HM.out hbw, HV.out.below hbw, hbw.mono (Nat.le_of_lt (blk_lt HM.out))⟩
  have hgs : w.heap.size ≤ w.heap.size ∧ w.heap.size ≤ w.heap.size + 1 := ⟨Nat.le_refl _, Nat.le_succ _⟩
  obtain ⟨g, hg⟩ : ∃ g, g = w.heap.size := ⟨_, rfl⟩
  obtain ⟨h, hh⟩ : ∃ h, h = w.heap.size + 1 := ⟨_, rfl⟩
  rw [← hh, ← hg] at hs ⊢
  generalize (w.alloc (.cells #[.pointer (some ⟨p, 0, none⟩)] 114)).alloc (.cells #[.pointer (some ⟨m, 0, none⟩)] 57) = w1 at *
  have HS := Aside0.mk hs
  clear hs hgs hg hh HV HM
  go_cut [] from 10 to 14 (fun wx => Aside0 (Sb w g h m p A c l f G wx))
  case first =>
    have hcg := (blk_cell HS.out.blk 0).trans rfl
    have hch := (blk_cell HS.out.ptr 0).trans rfl
    have hcm := (blk_cell HS.out.map 0).trans rfl
    have hfm := blk_frozen HS.out.map 0
    go_region_with (first | (go_at_call 61; ((with_reducible refine (C0.out _ (HS.out.below (below_drew (Below.refl _ _))).view).mono ?_); rintro e w5 ⟨rfl, hb⟩; have HS5 := Aside0.mk (HS.out.below (Below.trans (below_drew (Below.refl _ _)) hb)); have hch5 := (blk_cell HS5.out.ptr 0).trans rfl; have hcm5 := (blk_cell HS5.out.map 0).trans rfl; have hfm5 := blk_frozen HS5.out.map 0; clear hb)))
    all_goals
      go_wp2_with fail
      go_meet
      exact ⟨HS5.out.form f⟩
  case rest =>
    have HS := hcut
    have hcg := (blk_cell HS.out.blk 0).trans rfl
    have hch := (blk_cell HS.out.ptr 0).trans rfl
    have hcm := (blk_cell HS.out.map 0).trans rfl
    have hcm2 := (blk_cell HS.out.map 2).trans rfl
    have hfm2 := blk_frozen HS.out.map 2
    clear hcut C0
    have hff := HFF.out
    rcases hff with rfl | rfl
    all_goals
      go_upto_region 18 with fail
      go_region_with (first | (go_at_call 72; ((with_reducible refine (C1.out _ (HS.out.below (below_drew (Below.refl _ _))).view).mono ?_); rintro e w5 ⟨rfl, hb⟩; have HS5 := Aside0.mk (HS.out.below (Below.trans (below_drew (Below.refl _ _)) hb)); have hch5 := (blk_cell HS5.out.ptr 0).trans rfl; clear hb)) | (go_at_call 67; ((with_reducible refine (C2.out _ g h ⟨⟨HS5.out.blk, HS5.out.view, Below.refl _ _⟩, HS5.out.ptr, HS5.out.map⟩).mono ?_); rintro e w6 ⟨v, rfl, ho, hb⟩; obtain ⟨Av, cv, rfl⟩ := own_val ho; have HS6 := Aside0.mk (HS5.out.below hb); have HO6 := Aside0.mk ho; have hch6 := (blk_cell HS6.out.ptr 0).trans rfl; have hcm6 := (blk_cell HS6.out.map 2).trans rfl; have hfm6 := blk_frozen HS6.out.map 2; clear hb ho)))
      all_goals
        go_wp2
        go_returns
        exact ⟨rfl, .slice Av n cv, own_setCell (own_low HO6.out HS5.out.keep.size) (own_ne HO6.out HS6.out.map (by decide)) _, blk_set HS6.out.map 2 _, HS6.out.keep.setCell (Nat.le_refl _) _⟩
end Go.Proofs.Ytebmfbfmdbimdaa.F
