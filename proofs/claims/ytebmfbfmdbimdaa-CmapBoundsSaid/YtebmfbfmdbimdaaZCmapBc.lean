/- Package cmap, whatever the bytes: a subtable of any form (CmapBounds). -/
import Derived.Test.YtebmfbfmdbimdaaZCmapBb
import Derived.Test.YtebmfbfmdbimdaaZB456
import Derived.Shelf.Abstract
namespace Go.Proofs.Ytebmfbfmdbimdaa.F
open Go.RowKit Go.Proofs.YtebmfbfmdbimdaaW.PrintWords Go.Proofs.YtebmfbfmdbimdaaW.PrintLast Go.Proofs.YtebmfbfmdbimdaaW.PrintMore
set_option linter.unusedVariables false
set_option linter.unusedSimpArgs false
/-- A call that hands back something good or throws, in a walk: the thrown way is closed at once, one way goes on. -/
theorem Calls.thrown {P : Program} {f : FuncId} {args : Array Value} {w : World} {R : Ending → World → Prop} {X : Type} {val : X → Value} {Good : X → World → Prop} (h : Calls P f args w fun e w' => ((∃ x, e = .returned (val x) ∧ Good x w') ∨ Thr e) ∧ Below w.heap.size w w')
    (hpan : ∀ c w', c ≠ 0 → Below w.heap.size w w' → R (PK c) w') (hret : ∀ x w', Good x w' → Below w.heap.size w w' → R (.returned (val x)) w') : Calls P f args w R :=
  h.mono fun e w' ⟨he, hb⟩ => by
    rcases he with ⟨x, rfl, hg⟩ | ⟨c, hc, rfl⟩
    · exact hret x _ hg hb
    · exact hpan c _ hc hb
theorem rising_thr {g : Nat} {cb : Array Value} {n : Nat} {w : World} (eg : ∀ args w, (callFunc g args).run Try.prog w = .ok (.enter g args) w) (hn : n ≤ 4096)
    (hf : ∀ (i : Nat) (W : World), i < n → Below w.heap.size w W → Calls Try.prog g (#[.int .i64 i] ++ cb) W fun e w' => ((∃ x0 x4 x8 x9 : Int, e = .returned (.agg #[.int .i64 x0, .int .i64 x4, .int .i64 x8, .int .i64 x9]) ∧ Gz [x0, x4, x8, x9]) ∨ Thr e) ∧ Below W.heap.size W w') :
    Calls Try.prog 67 #[.int .i64 n, .func (.func g) #[] cb] w fun e w' => ((∃ x : Value, e = .returned x ∧ ∃ (L : List (List Int)) (t : Int), w'.ownsRow w.heap.size 95 4 x L.length (L.flatten.map (Value.int .i64)) ∧ L.length = n ∧ Gl L t) ∨ Thr e) ∧ Below w.heap.size w w' :=
  (rising_any g cb n w eg hn hf).mono fun e w' ⟨he, hb⟩ => ⟨he.imp (fun ⟨v, L, t, h1, h2, h3, h4⟩ => ⟨v, h1, L, t, h2, h3, h4⟩) id, hb⟩
theorem count_thr {p : Nat} {A : Option Addr} {c : Nat} {l : List Int} {at_ : Int} {w : World} (h : View w p A c l) (hb : ∀ z ∈ l, 0 ≤ z ∧ z ≤ 255) :
    Calls Try.prog 72 #[.agg #[.pointer (some ⟨p, 0, none⟩)], .int .i64 at_] w fun e w' => ((∃ n : Nat, e = .returned (.int .i64 n) ∧ n ≤ 4096) ∨ Thr e) ∧ Below w.heap.size w w' := count_any p A c l at_ w h hb
theorem rise3 {w : World} {g h m p : Nat} {A : Option Addr} {c : Nat} {l : List Int} {f G : Int} {n : Nat} (x : Cw w g h m p A c l f G w) (hb : ∀ z ∈ l, 0 ≤ z ∧ z ≤ 255) (hf : f = 12 ∨ f = 13) (hn : n ≤ 4096) :
    Calls Try.prog 67 #[.int .i64 n, .func (.func 73) #[] #[.pointer (some ⟨g, 0, none⟩), .pointer (some ⟨h, 0, none⟩)]] w fun e w' => ((∃ x : Value, e = .returned x ∧ ∃ (L : List (List Int)) (t : Int), w'.ownsRow w.heap.size 95 4 x L.length (L.flatten.map (Value.int .i64)) ∧ L.length = n ∧ Gl L t) ∨ Thr e) ∧ Below w.heap.size w w' :=
  rising_thr (enters_of Try.func73 (by kernel_rfl) rfl) hn fun i W hi hbw => sub3_any W g h m p A c l f G i ⟨⟨(x.rd.below hbw).blk, (x.rd.below hbw).view, Below.refl _ _⟩, (x.below hbw).ptr, (x.below hbw).map⟩ hb (Nat.lt_of_lt_of_le hi hn) hf
/-- What subtable leaves in the map: groups, or the closure of form 4. -/
def SubOk (m p : Nat) (A : Option Addr) (c : Nat) (l : List Int) (G : Int) (w' : World) : Prop :=
  (∃ (f : Int) (base : Nat) (v : Value) (L : List (List Int)) (t : Int), w'.ownsRow base 95 4 v L.length (L.flatten.map (Value.int .i64)) ∧ L.length ≤ 65536 ∧ Gl L t ∧ w'.heap[m]? = some (.cells #[.int .i64 f, .int .i64 G, v, .nilFunc, .slice none 0 0] 93 (0, 0))) ∨
  (∃ (be bn bs bo br bd : Nat) (E S O D : List Int), SegL l E S O D ∧ Seg w' m be bn bs bo br bd p A c l E S O D ∧
      w'.heap[m]? = some (.cells #[.int .i64 4, .int .i64 G, .slice none 0 0, .func (.func 84) #[] #[.pointer (some ⟨be, 0, none⟩), .pointer (some ⟨bn, 0, none⟩), .pointer (some ⟨bs, 0, none⟩), .pointer (some ⟨bo, 0, none⟩), .pointer (some ⟨br, 0, none⟩), .pointer (some ⟨bd, 0, none⟩)], .slice none 0 0] 93 (0, 0)))
set_option maxRecDepth 100000 in
set_option maxHeartbeats 4000000 in
theorem subt_12 (w : World) (m p : Nat) (A : Option Addr) (c : Nat) (l : List Int) (G : Int) (hv : View w p A c l) (hm0 : w.heap[m]? = some (.cells #[.int .i64 0, .int .i64 G, .slice none 0 0, .nilFunc, .slice none 0 0] 93 (0, 0))) (hb : ∀ z ∈ l, 0 ≤ z ∧ z ≤ 255) (hl : l.length < 140737488355328)
    (h0 : partOk l 0 2) (f : Int) (hf : num l 0 2 = f) (hff : f = 12 ∨ f = 13) :
    Calls Try.prog 57 #[.agg #[.pointer (some ⟨p, 0, none⟩)], .pointer (some ⟨m, 0, none⟩)] w fun e w' => ((e = .returned (.tuple #[]) ∧ SubOk m p A c l G w') ∨ Thr e) ∧ Below m w w' := by
  have C0 := Aside0.mk (fun W (hv : View W p A c l) => cu16_ok p A c l 0 W hv hb h0)
  rw [hf] at C0
  have HFF := Aside0.mk hff
  have HV := Aside0.mk hv
  have HM := Aside0.mk hm0
  have HBy := Aside0.mk hb
  have HLL := Aside0.mk hl
  have hmf : ∀ (fn : Fn) (first cap : Array Value) (w : World), (Instr.makeFunc fn first cap).run Try.prog w = .ok (.func fn first cap) w := fun _ _ _ _ => rfl
  clear hv hm0 hb hl h0 hf hff
  go_enter Try.func57, Try.ntmps57
  go_upto_region 1 with fail
  have hs : Sb w w.heap.size (w.heap.size + 1) m p A c l 0 G ((w.alloc (.cells #[.pointer (some ⟨p, 0, none⟩)] 114)).alloc (.cells #[.pointer (some ⟨m, 0, none⟩)] 57)) := by
    have hq : ((w.alloc (.cells #[.pointer (some ⟨p, 0, none⟩)] 114)).alloc (.cells #[.pointer (some ⟨m, 0, none⟩)] 57)).heap[w.heap.size + 1]? = some (.cells #[.pointer (some ⟨m, 0, none⟩)] 57 (0, 0)) := by
      have := blk_new (w.alloc (.cells #[.pointer (some ⟨p, 0, none⟩)] 114)) (.cells #[.pointer (some ⟨m, 0, none⟩)] 57)
      rwa [show (w.alloc (.cells #[.pointer (some ⟨p, 0, none⟩)] 114)).heap.size = w.heap.size + 1 from by simp] at this
    have hbw := below_alloc (below_alloc (Below.refl w.heap.size w) (.cells #[.pointer (some ⟨p, 0, none⟩)] 114)) (.cells #[.pointer (some ⟨m, 0, none⟩)] 57)
    exact ⟨blk_alloc (blk_new _ _) _, hq, blk_below HM.out hbw, HV.out.below hbw, hbw.mono (Nat.le_of_lt (blk_lt HM.out))⟩
  have hgs : w.heap.size ≤ w.heap.size ∧ w.heap.size ≤ w.heap.size + 1 := ⟨Nat.le_refl _, Nat.le_succ _⟩
  obtain ⟨g, hg⟩ : ∃ g, g = w.heap.size := ⟨_, rfl⟩
  obtain ⟨h, hh⟩ : ∃ h, h = w.heap.size + 1 := ⟨_, rfl⟩
  rw [← hh, ← hg] at hs ⊢
  generalize (w.alloc (.cells #[.pointer (some ⟨p, 0, none⟩)] 114)).alloc (.cells #[.pointer (some ⟨m, 0, none⟩)] 57) = w1 at *
  have HS := Aside0.mk hs
  have HGH : Aside0 (m < g ∧ m < h) := ⟨by have := blk_lt HM.out; omega⟩
  clear hs hgs hg hh HV HM
  go_cut [] from 10 to 14 (fun wx => Aside0 (Sb w g h m p A c l f G wx))
  case first =>
    have hcg := (blk_cell HS.out.blk 0).trans rfl
    have hch := (blk_cell HS.out.ptr 0).trans rfl
    have hcm := (blk_cell HS.out.map 0).trans rfl
    have hfm := blk_frozen HS.out.map 0
    go_region_with (first | (go_at_call 61; ((with_reducible refine (C0.out _ (HS.out.below (below_drew (Below.refl _ _))).view).mono ?_); rintro e w5 ⟨rfl, hb⟩; have HS5 := Aside0.mk (HS.out.below (Below.trans (below_drew (Below.refl _ _)) hb)); have hch5 := (blk_cell HS5.out.ptr 0).trans rfl; have hcm5 := (blk_cell HS5.out.map 0).trans rfl; have hfm5 := blk_frozen HS5.out.map 0; clear hb)))
    all_goals
      go_wp2_with fail
      go_meet
      exact ⟨HS5.out.form f⟩
  case rest =>
    have HS := hcut
    have hcg : wc.cell? ⟨g, 0, none⟩ = some (.pointer (some ⟨p, 0, none⟩)) := (blk_cell HS.out.blk 0).trans rfl
    have hch : wc.cell? ⟨h, 0, none⟩ = some (.pointer (some ⟨m, 0, none⟩)) := (blk_cell HS.out.ptr 0).trans rfl
    have hcm : wc.cell? ⟨m, 0, none⟩ = some (.int .i64 f) := (blk_cell HS.out.map 0).trans rfl
    clear hcut C0
    have hcm2 : wc.cell? ⟨m, 2, none⟩ = some (.slice none 0 0) := (blk_cell HS.out.map 2).trans rfl
    have hfm2 := blk_frozen HS.out.map 2
    have hff := HFF.out
    rcases hff with rfl | rfl
    all_goals
      go_upto_region 18 with fail
      go_region_with (first | (go_at_call 72; ((with_reducible refine Calls.thrown (count_thr (HS.out.below (below_drew (Below.refl _ _))).view HBy.out) ?_ ?_); (intro cc w5 hcc hb; exact ⟨rfl, .inr ⟨cc, hcc, rfl⟩, (HS.out.below (Below.trans (below_drew (Below.refl _ _)) hb)).keep⟩); intro n w5 hn hb; have HN5 := Aside0.mk hn; have HS5 := Aside0.mk (HS.out.below (Below.trans (below_drew (Below.refl _ _)) hb)); have hch5 : w5.cell? ⟨h, 0, none⟩ = some (.pointer (some ⟨m, 0, none⟩)) := (blk_cell HS5.out.ptr 0).trans rfl; clear hb hn)) | (go_at_call 67; ((with_reducible refine Calls.thrown (rise3 (g := g) (h := h) (m := m) (p := p) (A := A) (c := c) (l := l) (f := _) (G := G) ⟨⟨HS5.out.blk, HS5.out.view, Below.refl _ _⟩, HS5.out.ptr, HS5.out.map⟩ HBy.out (by decide) HN5.out) ?_ ?_); (intro cc w6 hcc hb; exact ⟨rfl, .inr ⟨cc, hcc, rfl⟩, (HS5.out.below hb).keep⟩); intro v w6 hg hb; obtain ⟨L, t, ho, hLn, hG⟩ := hg; obtain ⟨Av, cv, rfl⟩ := own_val ho; have HS6 := Aside0.mk (HS5.out.below hb); have HO6 := Aside0.mk ho; have HG6 := Aside0.mk (And.intro hLn hG); have hch6 : w6.cell? ⟨h, 0, none⟩ = some (.pointer (some ⟨m, 0, none⟩)) := (blk_cell HS6.out.ptr 0).trans rfl; have hcm6 : w6.cell? ⟨m, 2, none⟩ = some (.slice none 0 0) := (blk_cell HS6.out.map 2).trans rfl; have hfm6 := blk_frozen HS6.out.map 2; clear hb ho hLn hG)))
      all_goals
        go_wp2
        go_returns
        exact ⟨.inl ⟨rfl, .inl ⟨_, _, _, L, t, own_setCell HO6.out (own_ne HO6.out HS6.out.map (by decide)) _, by have := HG6.out.1; have := HN5.out; omega, HG6.out.2, blk_set HS6.out.map 2 _⟩⟩, HS6.out.keep.setCell (Nat.le_refl _) _⟩
set_option maxRecDepth 100000 in
set_option maxHeartbeats 4000000 in
theorem subt_4 (w : World) (m p : Nat) (A : Option Addr) (c : Nat) (l : List Int) (G : Int) (hv : View w p A c l) (hm0 : w.heap[m]? = some (.cells #[.int .i64 0, .int .i64 G, .slice none 0 0, .nilFunc, .slice none 0 0] 93 (0, 0))) (hb : ∀ z ∈ l, 0 ≤ z ∧ z ≤ 255) (hl : l.length < 140737488355328)
    (h0 : partOk l 0 2) (hf : num l 0 2 = 4) :
    Calls Try.prog 57 #[.agg #[.pointer (some ⟨p, 0, none⟩)], .pointer (some ⟨m, 0, none⟩)] w fun e w' => ((e = .returned (.tuple #[]) ∧ SubOk m p A c l G w') ∨ Thr e) ∧ Below m w w' := by
  have C0 := Aside0.mk (fun W (hv : View W p A c l) => cu16_ok p A c l 0 W hv hb h0)
  rw [hf] at C0
  obtain ⟨f, hff⟩ : ∃ f : Int, f = 4 := ⟨_, rfl⟩
  rw [← hff] at C0
  have HFF := Aside0.mk hff
  have HV := Aside0.mk hv
  have HM := Aside0.mk hm0
  have HBy := Aside0.mk hb
  have HLL := Aside0.mk hl
  have hmf : ∀ (fn : Fn) (first cap : Array Value) (w : World), (Instr.makeFunc fn first cap).run Try.prog w = .ok (.func fn first cap) w := fun _ _ _ _ => rfl
  clear hv hm0 hb hl h0 hf hff
  go_enter Try.func57, Try.ntmps57
  go_upto_region 1 with fail
  have hs : Sb w w.heap.size (w.heap.size + 1) m p A c l 0 G ((w.alloc (.cells #[.pointer (some ⟨p, 0, none⟩)] 114)).alloc (.cells #[.pointer (some ⟨m, 0, none⟩)] 57)) := by
    have hq : ((w.alloc (.cells #[.pointer (some ⟨p, 0, none⟩)] 114)).alloc (.cells #[.pointer (some ⟨m, 0, none⟩)] 57)).heap[w.heap.size + 1]? = some (.cells #[.pointer (some ⟨m, 0, none⟩)] 57 (0, 0)) := by
      have := blk_new (w.alloc (.cells #[.pointer (some ⟨p, 0, none⟩)] 114)) (.cells #[.pointer (some ⟨m, 0, none⟩)] 57)
      rwa [show (w.alloc (.cells #[.pointer (some ⟨p, 0, none⟩)] 114)).heap.size = w.heap.size + 1 from by simp] at this
    have hbw := below_alloc (below_alloc (Below.refl w.heap.size w) (.cells #[.pointer (some ⟨p, 0, none⟩)] 114)) (.cells #[.pointer (some ⟨m, 0, none⟩)] 57)
    exact ⟨blk_alloc (blk_new _ _) _, hq, blk_below HM.out hbw, HV.out.below hbw, hbw.mono (Nat.le_of_lt (blk_lt HM.out))⟩
  have hgs : w.heap.size ≤ w.heap.size ∧ w.heap.size ≤ w.heap.size + 1 := ⟨Nat.le_refl _, Nat.le_succ _⟩
  obtain ⟨g, hg⟩ : ∃ g, g = w.heap.size := ⟨_, rfl⟩
  obtain ⟨h, hh⟩ : ∃ h, h = w.heap.size + 1 := ⟨_, rfl⟩
  rw [← hh, ← hg] at hs ⊢
  generalize (w.alloc (.cells #[.pointer (some ⟨p, 0, none⟩)] 114)).alloc (.cells #[.pointer (some ⟨m, 0, none⟩)] 57) = w1 at *
  have HS := Aside0.mk hs
  have HGH : Aside0 (m < g ∧ m < h) := ⟨by have := blk_lt HM.out; omega⟩
  clear hs hgs hg hh HV HM
  go_cut [] from 10 to 14 (fun wx => Aside0 (Sb w g h m p A c l f G wx))
  case first =>
    have hcg := (blk_cell HS.out.blk 0).trans rfl
    have hch := (blk_cell HS.out.ptr 0).trans rfl
    have hcm := (blk_cell HS.out.map 0).trans rfl
    have hfm := blk_frozen HS.out.map 0
    go_region_with (first | (go_at_call 61; ((with_reducible refine (C0.out _ (HS.out.below (below_drew (Below.refl _ _))).view).mono ?_); rintro e w5 ⟨rfl, hb⟩; have HS5 := Aside0.mk (HS.out.below (Below.trans (below_drew (Below.refl _ _)) hb)); have hch5 := (blk_cell HS5.out.ptr 0).trans rfl; have hcm5 := (blk_cell HS5.out.map 0).trans rfl; have hfm5 := blk_frozen HS5.out.map 0; clear hb)))
    all_goals
      go_wp2_with fail
      go_meet
      exact ⟨HS5.out.form f⟩
  case rest =>
    have HS := hcut
    have hcg : wc.cell? ⟨g, 0, none⟩ = some (.pointer (some ⟨p, 0, none⟩)) := (blk_cell HS.out.blk 0).trans rfl
    have hch : wc.cell? ⟨h, 0, none⟩ = some (.pointer (some ⟨m, 0, none⟩)) := (blk_cell HS.out.ptr 0).trans rfl
    have hcm : wc.cell? ⟨m, 0, none⟩ = some (.int .i64 f) := (blk_cell HS.out.map 0).trans rfl
    clear hcut C0
    obtain rfl := HFF.out
    go_wp2_with (go_at_call 69; ((with_reducible refine (seg_any _ m p A c l G HS.out.view HS.out.map HBy.out).mono ?_); rintro e w5 ⟨⟨rfl, hs⟩ | ⟨cc, hcc, rfl⟩, hb⟩ <;> (have HB5 := Aside0.mk (HS.out.keep.trans hb); clear hb)))
    · go_returns
      exact ⟨.inl ⟨rfl, .inr hs⟩, HB5.out⟩
    · exact ⟨rfl, .inr ⟨cc, hcc, rfl⟩, HB5.out⟩
set_option maxRecDepth 100000 in
set_option maxHeartbeats 4000000 in
theorem subt_no (w : World) (m p : Nat) (A : Option Addr) (c : Nat) (l : List Int) (G : Int) (hv : View w p A c l) (hm0 : w.heap[m]? = some (.cells #[.int .i64 0, .int .i64 G, .slice none 0 0, .nilFunc, .slice none 0 0] 93 (0, 0))) (hb : ∀ z ∈ l, 0 ≤ z ∧ z ≤ 255) (hl : l.length < 140737488355328)
    (h0 : partOk l 0 2) (f : Int) (hf : num l 0 2 = f) (hff : f ≠ 0 ∧ f ≠ 4 ∧ f ≠ 6 ∧ f ≠ 12 ∧ f ≠ 13) :
    Calls Try.prog 57 #[.agg #[.pointer (some ⟨p, 0, none⟩)], .pointer (some ⟨m, 0, none⟩)] w fun e w' => ((e = .returned (.tuple #[]) ∧ SubOk m p A c l G w') ∨ Thr e) ∧ Below m w w' := by
  have C0 := Aside0.mk (fun W (hv : View W p A c l) => cu16_ok p A c l 0 W hv hb h0)
  rw [hf] at C0
  have HFF := Aside0.mk hff
  have HV := Aside0.mk hv
  have HM := Aside0.mk hm0
  have HBy := Aside0.mk hb
  have HLL := Aside0.mk hl
  have hmf : ∀ (fn : Fn) (first cap : Array Value) (w : World), (Instr.makeFunc fn first cap).run Try.prog w = .ok (.func fn first cap) w := fun _ _ _ _ => rfl
  clear hv hm0 hb hl h0 hf hff
  go_enter Try.func57, Try.ntmps57
  go_upto_region 1 with fail
  have hs : Sb w w.heap.size (w.heap.size + 1) m p A c l 0 G ((w.alloc (.cells #[.pointer (some ⟨p, 0, none⟩)] 114)).alloc (.cells #[.pointer (some ⟨m, 0, none⟩)] 57)) := by
    have hq : ((w.alloc (.cells #[.pointer (some ⟨p, 0, none⟩)] 114)).alloc (.cells #[.pointer (some ⟨m, 0, none⟩)] 57)).heap[w.heap.size + 1]? = some (.cells #[.pointer (some ⟨m, 0, none⟩)] 57 (0, 0)) := by
      have := blk_new (w.alloc (.cells #[.pointer (some ⟨p, 0, none⟩)] 114)) (.cells #[.pointer (some ⟨m, 0, none⟩)] 57)
      rwa [show (w.alloc (.cells #[.pointer (some ⟨p, 0, none⟩)] 114)).heap.size = w.heap.size + 1 from by simp] at this
    have hbw := below_alloc (below_alloc (Below.refl w.heap.size w) (.cells #[.pointer (some ⟨p, 0, none⟩)] 114)) (.cells #[.pointer (some ⟨m, 0, none⟩)] 57)
    exact ⟨blk_alloc (blk_new _ _) _, hq, blk_below HM.out hbw, HV.out.below hbw, hbw.mono (Nat.le_of_lt (blk_lt HM.out))⟩
  have hgs : w.heap.size ≤ w.heap.size ∧ w.heap.size ≤ w.heap.size + 1 := ⟨Nat.le_refl _, Nat.le_succ _⟩
  obtain ⟨g, hg⟩ : ∃ g, g = w.heap.size := ⟨_, rfl⟩
  obtain ⟨h, hh⟩ : ∃ h, h = w.heap.size + 1 := ⟨_, rfl⟩
  rw [← hh, ← hg] at hs ⊢
  generalize (w.alloc (.cells #[.pointer (some ⟨p, 0, none⟩)] 114)).alloc (.cells #[.pointer (some ⟨m, 0, none⟩)] 57) = w1 at *
  have HS := Aside0.mk hs
  have HGH : Aside0 (m < g ∧ m < h) := ⟨by have := blk_lt HM.out; omega⟩
  clear hs hgs hg hh HV HM
  go_cut [] from 10 to 14 (fun wx => Aside0 (Sb w g h m p A c l f G wx))
  case first =>
    have hcg := (blk_cell HS.out.blk 0).trans rfl
    have hch := (blk_cell HS.out.ptr 0).trans rfl
    have hcm := (blk_cell HS.out.map 0).trans rfl
    have hfm := blk_frozen HS.out.map 0
    go_region_with (first | (go_at_call 61; ((with_reducible refine (C0.out _ (HS.out.below (below_drew (Below.refl _ _))).view).mono ?_); rintro e w5 ⟨rfl, hb⟩; have HS5 := Aside0.mk (HS.out.below (Below.trans (below_drew (Below.refl _ _)) hb)); have hch5 := (blk_cell HS5.out.ptr 0).trans rfl; have hcm5 := (blk_cell HS5.out.map 0).trans rfl; have hfm5 := blk_frozen HS5.out.map 0; clear hb)))
    all_goals
      go_wp2_with fail
      go_meet
      exact ⟨HS5.out.form f⟩
  case rest =>
    have HS := hcut
    have hcg : wc.cell? ⟨g, 0, none⟩ = some (.pointer (some ⟨p, 0, none⟩)) := (blk_cell HS.out.blk 0).trans rfl
    have hch : wc.cell? ⟨h, 0, none⟩ = some (.pointer (some ⟨m, 0, none⟩)) := (blk_cell HS.out.ptr 0).trans rfl
    have hcm : wc.cell? ⟨m, 0, none⟩ = some (.int .i64 f) := (blk_cell HS.out.map 0).trans rfl
    clear hcut C0
    obtain ⟨n0, n4, n6, n12, n13⟩ := HFF.out
    have e0 : (f == 0) = false := by simpa using n0
    have e4 : (f == 4) = false := by simpa using n4
    have e6 : (f == 6) = false := by simpa using n6
    have e12 : (f == 12) = false := by simpa using n12
    have e13 : (f == 13) = false := by simpa using n13
    clear n0 n4 n6 n12 n13
    go_wp2_with (go_at_call 54; (with_reducible refine (must_no 52 _).mono ?_); rintro e w6 ⟨rfl, rfl⟩)
    exact ⟨rfl, .inr ⟨52, by decide, rfl⟩, HS.out.keep⟩
end Go.Proofs.Ytebmfbfmdbimdaa.F
