/- Package cmap, whatever the bytes: the selectors, walked (CmapBounds). -/
import Derived.Test.YtebmfbfmdbimdaaZBfg
import Derived.Deep.RegionLaw
namespace Go.Proofs.Ytebmfbfmdbimdaa.F
open Go.RowKit Go.Proofs.YtebmfbfmdbimdaaW.PrintWords Go.Proofs.YtebmfbfmdbimdaaW.PrintLast Go.Proofs.YtebmfbfmdbimdaaW.PrintMore
set_option linter.unusedVariables false
set_option linter.unusedSimpArgs false
theorem more_lit (w w0 : World) (g b p : Nat) (A : Option Addr) (c : Nat) (l : List Int) (tot at_ : Int) (hr : Rd w0 g p A c l w) (hp : w.heap[b]? = some (.cells #[.int .i64 tot] 3 (0, 0))) (ht : 0 ≤ tot ∧ tot ≤ 4096) (hb : ∀ z ∈ l, 0 ≤ z ∧ z ≤ 255) :
    Calls Try.prog 74 #[.int .i64 at_, .pointer (some ⟨g, 0, none⟩), .pointer (some ⟨b, 0, none⟩)] w fun e w' => (∃ (n : Nat) (w1 : World), e = .returned (.int .i64 n) ∧ (n : Int) ≤ 4096 - tot ∧ Below w.heap.size w w1 ∧ w' = w1.setCell ⟨b, 0, none⟩ (.int .i64 (tot + n))) ∨ (Thr e ∧ Below w.heap.size w w') :=
  more_any w w0 g b p A c l tot at_ hr hp ht hb
theorem rise_v2 {w w0 : World} {g b p : Nat} {A : Option Addr} {c : Nat} {l : List Int} {pl : Int} {n : Nat} (hr : Rd w0 g p A c l w) (hp : w.heap[b]? = some (.cells #[.int .i64 pl] 3 (0, 0))) (hp0 : 0 ≤ pl ∧ pl < 4294967296) (hn : n ≤ 4096) (hb : ∀ z ∈ l, 0 ≤ z ∧ z ≤ 255) :
    Calls Try.prog 67 #[.int .i64 n, .func (.func 76) #[] #[.pointer (some ⟨g, 0, none⟩), .pointer (some ⟨b, 0, none⟩)]] w fun e w' => ((∃ x : Value, e = .returned x ∧ ∃ (L : List (List Int)) (t : Int), w'.ownsRow w.heap.size 95 4 x L.length (L.flatten.map (Value.int .i64)) ∧ L.length = n ∧ Gl L t) ∨ Thr e) ∧ Below w.heap.size w w' :=
  rising_thr (enters_of Try.func76 (by kernel_rfl) rfl) hn fun i W hi hbw => var2_any W w0 g b p A c l pl i (hr.below hbw) ((blk_cell (blk_below hp hbw) 0).trans rfl) hp0 (Nat.lt_of_lt_of_le hi hn) hb
theorem rise_v3 {w w0 : World} {g b p : Nat} {A : Option Addr} {c : Nat} {l : List Int} {pl : Int} {n : Nat} (hr : Rd w0 g p A c l w) (hp : w.heap[b]? = some (.cells #[.int .i64 pl] 3 (0, 0))) (hp0 : 0 ≤ pl ∧ pl < 4294967296) (hn : n ≤ 4096) (hb : ∀ z ∈ l, 0 ≤ z ∧ z ≤ 255) :
    Calls Try.prog 67 #[.int .i64 n, .func (.func 78) #[] #[.pointer (some ⟨g, 0, none⟩), .pointer (some ⟨b, 0, none⟩)]] w fun e w' => ((∃ x : Value, e = .returned x ∧ ∃ (L : List (List Int)) (t : Int), w'.ownsRow w.heap.size 95 4 x L.length (L.flatten.map (Value.int .i64)) ∧ L.length = n ∧ Gl L t) ∨ Thr e) ∧ Below w.heap.size w w' :=
  rising_thr (enters_of Try.func78 (by kernel_rfl) rfl) hn fun i W hi hbw => var3_any W w0 g b p A c l pl i (hr.below hbw) ((blk_cell (blk_below hp hbw) 0).trans rfl) hp0 (Nat.lt_of_lt_of_le hi hn) hb
theorem RowG.nou8 {W : World} {v : Value} (h : RowG W v) : ∀ z, v ≠ .int .u8 z := by
  obtain ⟨_, _, _, ho, _⟩ := h
  obtain ⟨A, c, rfl⟩ := own_val ho
  intro z h2
  cases h2
theorem RowG.slice {W : World} {v : Value} (h : RowG W v) : ∃ A n c, v = .slice A n c := by
  obtain ⟨_, L, _, ho, _⟩ := h
  obtain ⟨A, c, rfl⟩ := own_val ho
  exact ⟨A, L.length, c, rfl⟩
/-- The total's cell is written: the blocks besides it. -/
theorem far_tot {W : World} {b k : Nat} {cs : Array Value} {t : TypeId} (h : W.heap[k]? = some (.cells cs t (0, 0))) (hn : k ≠ b) (u : Value) : (W.setCell ⟨b, 0, none⟩ u).heap[k]? = some (.cells cs t (0, 0)) := blk_far h hn _
theorem fin_all {P Q R S T : Prop} (h : (P ∧ Q) ∧ T) (r : R) (s : S) : Aside0 P ∧ Aside0 Q ∧ Aside0 R ∧ Aside0 T ∧ Aside0 S := ⟨⟨h.1.1⟩, ⟨h.1.2⟩, ⟨r⟩, ⟨h.2⟩, ⟨s⟩⟩
section
variable {W : World} {a b : Nat} {x y z z' : Int}
theorem fin_new (W : World) (x y : Int) : ((W.alloc (.cells #[.int .i64 x] 3)).alloc (.cells #[.int .i64 y] 3)).heap[W.heap.size]? = some (.cells #[.int .i64 x] 3 (0, 0)) ∧ ((W.alloc (.cells #[.int .i64 x] 3)).alloc (.cells #[.int .i64 y] 3)).heap[W.heap.size + 1]? = some (.cells #[.int .i64 y] 3 (0, 0)) := by
  have h2 := blk_new (W.alloc (.cells #[.int .i64 x] 3)) (.cells #[.int .i64 y] 3)
  rw [show (W.alloc (.cells #[.int .i64 x] 3)).heap.size = W.heap.size + 1 from by simp] at h2
  exact ⟨blk_alloc (blk_new W _) _, h2⟩
theorem fin_wen (W : World) (x y : Int) : ((W.alloc (.cells #[.int .i64 x] 3)).alloc (.cells #[.int .i64 y] 3)).heap[W.heap.size + 1]? = some (.cells #[.int .i64 y] 3 (0, 0)) ∧ ((W.alloc (.cells #[.int .i64 x] 3)).alloc (.cells #[.int .i64 y] 3)).heap[W.heap.size]? = some (.cells #[.int .i64 x] 3 (0, 0)) := ⟨(fin_new W x y).2, (fin_new W x y).1⟩
theorem fin_old (h : W.heap[a]? = some (.cells #[.int .i64 z] 3 (0, 0))) : (((W.alloc (.cells #[.int .i64 z'] 3)).setCell ⟨a, 0, none⟩ (.int .i64 x)).setCell ⟨W.heap.size, 0, none⟩ (.int .i64 y)).heap[a]? = some (.cells #[.int .i64 x] 3 (0, 0)) ∧ (((W.alloc (.cells #[.int .i64 z'] 3)).setCell ⟨a, 0, none⟩ (.int .i64 x)).setCell ⟨W.heap.size, 0, none⟩ (.int .i64 y)).heap[W.heap.size]? = some (.cells #[.int .i64 y] 3 (0, 0)) := by
  have hn : a ≠ W.heap.size := Nat.ne_of_lt (blk_lt h)
  exact ⟨blk_far (blk_set (blk_alloc h _) 0 _) hn _, blk_set (blk_far (blk_new W _) hn.symm _) 0 _⟩
theorem fin_both (h : W.heap[a]? = some (.cells #[.int .i64 z] 3 (0, 0))) (h' : W.heap[b]? = some (.cells #[.int .i64 z'] 3 (0, 0))) (hn : a ≠ b) : ((W.setCell ⟨a, 0, none⟩ (.int .i64 x)).setCell ⟨b, 0, none⟩ (.int .i64 y)).heap[a]? = some (.cells #[.int .i64 x] 3 (0, 0)) ∧ ((W.setCell ⟨a, 0, none⟩ (.int .i64 x)).setCell ⟨b, 0, none⟩ (.int .i64 y)).heap[b]? = some (.cells #[.int .i64 y] 3 (0, 0)) :=
  ⟨blk_far (blk_set h 0 _) hn _, blk_set (blk_far h' hn.symm _) 0 _⟩
theorem fin_dlo (h : W.heap[a]? = some (.cells #[.int .i64 z] 3 (0, 0))) : ((W.alloc (.cells #[.int .i64 x] 3)).setCell ⟨a, 0, none⟩ (.int .i64 y)).heap[W.heap.size]? = some (.cells #[.int .i64 x] 3 (0, 0)) ∧ ((W.alloc (.cells #[.int .i64 x] 3)).setCell ⟨a, 0, none⟩ (.int .i64 y)).heap[a]? = some (.cells #[.int .i64 y] 3 (0, 0)) :=
  ⟨blk_far (blk_new W _) (Nat.ne_of_gt (blk_lt h)) _, blk_set (blk_alloc h _) 0 _⟩
end
section
variable {w1 w' w'' : World} {g p : Nat}
theorem two_new {W w'' : World} {o o2 : Obj} (hb : Below ((W.alloc o).alloc o2).heap.size ((W.alloc o).alloc o2) w'') : w''.heap[W.heap.size]? = some o ∧ w''.heap[W.heap.size + 1]? = some o2 := by
  have h1 := blk_alloc (blk_new W o) o2
  have h2 := blk_new (W.alloc o) o2
  rw [show (W.alloc o).heap.size = W.heap.size + 1 from by simp] at h2
  exact ⟨blk_below h1 hb, blk_below h2 hb⟩
theorem s6_two {o o2 : Obj} (x : w'.cell? ⟨g, 0, none⟩ = some (.pointer (some ⟨p, 0, none⟩)) ∧ Aside0 (Below w1.heap.size w1 w')) (hb : Below ((w'.alloc o).alloc o2).heap.size ((w'.alloc o).alloc o2) w'') : (w1.heap.size ≤ w'.heap.size ∧ w''.heap[w'.heap.size]? = some o) ∧ (w1.heap.size ≤ w'.heap.size + 1 ∧ w''.heap[w'.heap.size + 1]? = some o2) ∧ w'.heap.size ≠ w'.heap.size + 1 := by
  have h := two_new hb
  have hs := x.2.out.size
  exact ⟨⟨hs, h.1⟩, ⟨by omega, h.2⟩, by omega⟩
theorem s6_new2a {b : Nat} {o o' : Obj} (x : w1.heap.size ≤ b ∧ w'.heap[b]? = some o) (hb : Below (w'.alloc o').heap.size (w'.alloc o') w'') : w1.heap.size ≤ b ∧ w''.heap[b]? = some o := ⟨x.1, blk_below (blk_alloc x.2 o') hb⟩
theorem s6_two3 {o o2 : Obj} (hb : Below (((w1.alloc o).alloc o2).drew).heap.size (((w1.alloc o).alloc o2).drew) w'') : (w1.heap.size ≤ w1.heap.size ∧ w''.heap[w1.heap.size]? = some o) ∧ (w1.heap.size ≤ w1.heap.size + 1 ∧ w''.heap[w1.heap.size + 1]? = some o2) ∧ w1.heap.size ≠ w1.heap.size + 1 := by
  have h1 := blk_alloc (blk_new w1 o) o2
  have h2 := blk_new (w1.alloc o) o2
  rw [show (w1.alloc o).heap.size = w1.heap.size + 1 from by simp] at h2
  exact ⟨⟨Nat.le_refl _, blk_below (w := ((w1.alloc o).alloc o2).drew) h1 hb⟩, ⟨by omega, blk_below (w := ((w1.alloc o).alloc o2).drew) h2 hb⟩, by omega⟩
end
set_option maxRecDepth 100000 in
set_option maxHeartbeats 8000000 in
theorem var_any (w : World) (m p : Nat) (A : Option Addr) (c : Nat) (l : List Int) (f G : Int) (v fn : Value) (hv : View w p A c l) (hm0 : w.heap[m]? = some (.cells #[.int .i64 f, .int .i64 G, v, fn, .slice none 0 0] 93 (0, 0))) (hvv : ∀ z, v ≠ .int .u8 z) (hfn : ∀ z, fn ≠ .int .u8 z) (hb : ∀ z ∈ l, 0 ≤ z ∧ z ≤ 255) :
    Calls Try.prog 58 #[.agg #[.pointer (some ⟨p, 0, none⟩)], .pointer (some ⟨m, 0, none⟩)] w fun e w' => ((e = .returned (.tuple #[]) ∧ KeepBut w w' m none ∧ ∃ (base : Nat) (sv : Value) (Ss : List (Int × Value × Value)), w'.ownsRow base 99 3 sv Ss.length (Ss.flatMap selC) ∧ (∀ s ∈ Ss, RowG w' s.2.1 ∧ RowG w' s.2.2) ∧ Ss.length ≤ 4096 ∧ w'.heap[m]? = some (.cells #[.int .i64 f, .int .i64 G, v, fn, sv] 93 (0, 0))) ∨ Thr e) ∧ Below m w w' := by
  have C0 := Aside0.mk (fun W (hv : View W p A c l) => cu16_any p A c l 0 W hv hb)
  have CC := Aside0.mk (fun W (hv : View W p A c l) => count_any p A c l 6 W hv hb)
  have C24 := Aside0.mk (fun (at_ : Int) W (hv : View W p A c l) => cu24_any p A c l at_ W hv hb)
  have C32 := Aside0.mk (fun (at_ : Int) W (hv : View W p A c l) => cu32_any p A c l at_ W hv hb)
  have N24 := Aside0.mk (fun (at_ : Int) => num_bound (l := l) (at_ := at_) (n := 3) hb (by decide))
  have N32 := Aside0.mk (fun (at_ : Int) => num_bound (l := l) (at_ := at_) (n := 4) hb (by decide))
  have HV := Aside0.mk hv
  have HM := Aside0.mk hm0
  have HVF := Aside0.mk (And.intro hvv hfn)
  have HBy := Aside0.mk hb
  have hmf : ∀ (fn : Fn) (first cap : Array Value) (w : World), (Instr.makeFunc fn first cap).run Try.prog w = .ok (.func fn first cap) w := fun _ _ _ _ => rfl
  generalize num l 0 2 = x at *
  have hbw := below_alloc (Below.refl w.heap.size w) (.cells #[.pointer (some ⟨p, 0, none⟩)] 114)
  have hq : ∀ w1 w2 : World, Below w.heap.size w w1 → w.heap.size ≤ w1.heap.size → ∀ g, w.heap.size ≤ g → w1.heap[g]? = some (.cells #[.pointer (some ⟨p, 0, none⟩)] 114 (0, 0)) → Vq w g w1.heap.size m p A c l f G v fn (.slice none 0 0) [] (w1.alloc (.cells #[.int .i64 0] 3)) := by
    intro w1 w2 hb1 hs1 g hg hgb
    have hb2 := below_alloc hb1 (.cells #[.int .i64 0] 3)
    exact ⟨blk_alloc hgb _, ⟨0, by decide, by decide, blk_new _ _⟩, hv.below hb2, blk_below hm0 hb2, World.ownsRow_nil _ _ _ _, (by simp), KeepBut.of_below hb2 m none, hb2.mono (Nat.le_of_lt (blk_lt hm0)), ⟨blk_lt hm0, hs1⟩⟩
  have HQ0 := Aside0.mk hq
  have HB0 := Aside0.mk hbw
  have HG0 := Aside0.mk (blk_new w (.cells #[.pointer (some ⟨p, 0, none⟩)] 114))
  have HV1 := Aside0.mk (hv.below hbw)
  have HMS := Aside0.mk (blk_lt hm0)
  clear hv hm0 hvv hfn hb hbw hq
  go_enter Try.func58, Try.ntmps58
  go_upto_region 4 with (first | (go_at_call 61; ((with_reducible refine (C0.out _ HV1.out).mono ?_); rintro e w2 ⟨rfl | rfl, hb⟩ <;> (have HB2 := Aside0.mk (below_then HB0.out HB0.out.size hb); have HG2 := Aside0.mk (blk_below HG0.out hb); clear hb))) | (go_at_call 54; refine Calls.must ?_ ?_; (exact ⟨rfl, .inr ⟨52, by decide, rfl⟩, HB2.out.mono (Nat.le_of_lt HMS.out)⟩); intro hm1))
  · have HQ := Aside0.mk (HQ0.out w2 w2 HB2.out HB2.out.size w.heap.size (Nat.le_refl _) HG2.out)
    obtain ⟨g, hg⟩ : ∃ g, g = w.heap.size := ⟨_, rfl⟩
    obtain ⟨bt, hbt⟩ : ∃ bt, bt = w2.heap.size := ⟨_, rfl⟩
    have HQ : Aside0 (Vq w g bt m p A c l f G v fn (.slice none 0 0) [] (w2.alloc (.cells #[.int .i64 0] 3))) := ⟨by rw [hg, hbt]; exact HQ.out⟩
    have HGB : Aside0 (w.heap.size ≤ g) := ⟨by omega⟩
    rw [← hbt, ← hg]
    clear hg hbt HG2 HB2 HQ0 HB0 HG0 HV1 C0 hm1
    generalize w2.alloc _ = w3 at *
    have hcg := HQ.out.cell
    go_wp2_with (go_at_call 72; ((with_reducible refine (CC.out _ HQ.out.view).mono ?_); rintro e w4 ⟨⟨n, rfl, hn⟩ | ⟨cc, hcc, rfl⟩, hb⟩ <;> (have HQ4 := Aside0.mk (HQ.out.below hb); clear hb)))
    · have HN := Aside0.mk hn
      clear HQ hcg hn CC
      go_loopw [4, 19] (fun s4 s19 wr => ∃ (la : Int) (sv : Value) (Ss : List (Int × Value × Value)), s4 = .int .i64 la ∧ s19 = .int .i64 (Ss.length : Int) ∧ Aside0 (Ss.length ≤ n) ∧ Aside0 (Vq w g bt m p A c l f G v fn sv Ss wr)) (fun _ s19 _ => n - (intOf s19).toNat)
      case atStart => exact ⟨-1, _, [], rfl, rfl, ⟨Nat.zero_le _⟩, HQ4⟩
      case round =>
        obtain ⟨la, sv, Ss, rfl, rfl, HI, HQ⟩ := hrel
        clear HQ4
        by_cases hlt : Ss.length < n
        · have hcg := HQ.out.cell
          have HLT := Aside0.mk hlt
          go_upto_region 9 with (first | (go_at_call 75; ((with_reducible refine (C24.out _ _ HQ.out.view).mono ?_); rintro e w5 ⟨rfl | rfl, hb⟩ <;> (have HQ5 := Aside0.mk (HQ.out.below hb); clear hb))))
          · generalize num l (wrap64 (10 + wrap64 (11 * (Ss.length : Int)))) 3 = code at *
            have HNE : Aside0 (some w5.heap.size ≠ sv.ownBlock) := ⟨by have := own_ne_new HQ5.out.row 0; simpa using this⟩
            have HBS : Aside0 (w.heap.size ≤ w5.heap.size) := ⟨HQ5.out.kp.1⟩
            have HQ6 := Aside0.mk (HQ5.out.below (below_alloc (Below.refl _ _) (.cells #[.int .i64 code, .slice none 0 0, .slice none 0 0] 99)))
            have hb6 := blk_new w5 (.cells #[.int .i64 code, .slice none 0 0, .slice none 0 0] 99)
            obtain ⟨bs, hbs⟩ : ∃ bs, bs = w5.heap.size := ⟨_, rfl⟩
            rw [← hbs] at HNE HBS hb6 ⊢
            clear HQ hcg HQ5 hbs
            generalize w5.alloc _ = w6 at *
            have HB6 := Aside0.mk hb6
            have hcg6 := HQ6.out.cell
            have HCG := Aside0.mk hcg6
            have HB0 : Aside0 (Below w6.heap.size w6 w6) := ⟨Below.refl _ _⟩
            clear hb6 hcg6
            go_cut [10, 11] from 29 to 36 (fun s10 s11 wx => ∃ (b10 b11 : Nat) (x10 x11 : Int), s10 = .pointer (some ⟨b10, 0, none⟩) ∧ s11 = .pointer (some ⟨b11, 0, none⟩) ∧ Aside0 (wx.heap[b10]? = some (.cells #[.int .i64 x10] 3 (0, 0))) ∧ Aside0 (wx.heap[b11]? = some (.cells #[.int .i64 x11] 3 (0, 0))) ∧ Aside0 ((0 ≤ x10 ∧ x10 < 4294967296) ∧ (0 ≤ x11 ∧ x11 < 4294967296)) ∧ Aside0 (w6.heap.size ≤ b10 ∧ w6.heap.size ≤ b11) ∧ Aside0 (Below w6.heap.size w6 wx))
            case first => as_aux_lemma =>
              go_region_held2 (fun w' => w'.cell? ⟨g, 0, none⟩ = some (.pointer (some ⟨p, 0, none⟩)) ∧ Aside0 (Below w6.heap.size w6 w'))
                (first | assumption | exact s6_set HCG.out (by repeat (first | (with_reducible exact Below.refl _ _) | exact s6_bel (w1 := w6) (g := g) (p := p) (by assumption) | (with_reducible apply below_alloc) | (with_reducible apply below_drew) | refine below_set ?_ HZa.out.1 | refine below_set ?_ HZb.out.1 | refine below_set ?_ (s6_bel (w1 := w6) (g := g) (p := p) (by assumption)).size)))
                (first | (go_at_call 62; (with_reducible refine Calls.either (C32.out _ _ (HQ6.out.below (by repeat (first | (with_reducible exact Below.refl _ _) | exact s6_bel (w1 := w6) (g := g) (p := p) (by assumption) | (with_reducible apply below_alloc) | (with_reducible apply below_drew) | refine below_set ?_ HZa.out.1 | refine below_set ?_ HZb.out.1 | refine below_set ?_ (s6_bel (w1 := w6) (g := g) (p := p) (by assumption)).size))).view) ?_ ?_); (intro w7 hb; exact ⟨rfl, .inr ⟨51, by decide, rfl⟩, ((HQ6.out.below (by repeat (first | (with_reducible exact Below.refl _ _) | exact s6_bel (w1 := w6) (g := g) (p := p) (by assumption) | (with_reducible apply below_alloc) | (with_reducible apply below_drew) | refine below_set ?_ HZa.out.1 | refine below_set ?_ HZb.out.1 | refine below_set ?_ (s6_bel (w1 := w6) (g := g) (p := p) (by assumption)).size))).below hb).bel⟩); intro w7 hb; have hbw7 : Below w6.heap.size w6 w7 := below_then (by repeat (first | (with_reducible exact Below.refl _ _) | exact s6_bel (w1 := w6) (g := g) (p := p) (by assumption) | (with_reducible apply below_alloc) | (with_reducible apply below_drew) | refine below_set ?_ HZa.out.1 | refine below_set ?_ HZb.out.1 | refine below_set ?_ (s6_bel (w1 := w6) (g := g) (p := p) (by assumption)).size)) (Below.size (by repeat (first | (with_reducible exact Below.refl _ _) | exact s6_bel (w1 := w6) (g := g) (p := p) (by assumption) | (with_reducible apply below_alloc) | (with_reducible apply below_drew) | refine below_set ?_ HZa.out.1 | refine below_set ?_ HZb.out.1 | refine below_set ?_ (s6_bel (w1 := w6) (g := g) (p := p) (by assumption)).size))) hb; have hS7 := s6_set (g := g) (p := p) HCG.out hbw7; clear hbw7; (first | (have hz := s6_two3 (w1 := w6) hb; (have za := blk_cell hz.1.2 0; have ya := blk_frozen hz.1.2 0; have na := fun o => (blk_cell (blk_alloc hz.1.2 o) 0).trans rfl; have ma := fun o => blk_frozen (blk_alloc hz.1.2 o) 0; have nna := Nat.ne_of_lt (blk_lt hz.1.2); have mma := Nat.ne_of_gt (blk_lt hz.1.2); have zb := blk_cell hz.2.1.2 0; have yb := blk_frozen hz.2.1.2 0; have HZa := Aside0.mk hz.1; have HZb := Aside0.mk hz.2.1; have HNEab := Aside0.mk hz.2.2; clear hz)) | (have hz := s6_two (w1 := w6) (g := g) (p := p) (by assumption) hb; (have za := blk_cell hz.1.2 0; have ya := blk_frozen hz.1.2 0; have na := fun o => (blk_cell (blk_alloc hz.1.2 o) 0).trans rfl; have ma := fun o => blk_frozen (blk_alloc hz.1.2 o) 0; have nna := Nat.ne_of_lt (blk_lt hz.1.2); have mma := Nat.ne_of_gt (blk_lt hz.1.2); have zb := blk_cell hz.2.1.2 0; have yb := blk_frozen hz.2.1.2 0; have HZa := Aside0.mk hz.1; have HZb := Aside0.mk hz.2.1; have HNEab := Aside0.mk hz.2.2; clear hz)) | (have hz := s6_new3 (w1 := w6) hb; (first | (have HNEab := Aside0.mk (Nat.ne_of_lt (blk_lt HZa.out.2)); have zb := blk_cell hz.2 0; have yb := blk_frozen hz.2 0; have HZb := Aside0.mk hz; clear hz) | (have za := blk_cell hz.2 0; have ya := blk_frozen hz.2 0; have na := fun o => (blk_cell (blk_alloc hz.2 o) 0).trans rfl; have ma := fun o => blk_frozen (blk_alloc hz.2 o) 0; have nna := Nat.ne_of_lt (blk_lt hz.2); have mma := Nat.ne_of_gt (blk_lt hz.2); have HZa := Aside0.mk hz; clear hz))) | (have hz := s6_new (w1 := w6) (g := g) (p := p) (by assumption) hb; (first | (have HNEab := Aside0.mk (Nat.ne_of_lt (blk_lt HZa.out.2)); have zb := blk_cell hz.2 0; have yb := blk_frozen hz.2 0; have HZb := Aside0.mk hz; clear hz) | (have za := blk_cell hz.2 0; have ya := blk_frozen hz.2 0; have na := fun o => (blk_cell (blk_alloc hz.2 o) 0).trans rfl; have ma := fun o => blk_frozen (blk_alloc hz.2 o) 0; have nna := Nat.ne_of_lt (blk_lt hz.2); have mma := Nat.ne_of_gt (blk_lt hz.2); have HZa := Aside0.mk hz; clear hz))) | skip); (first | (have hq := s6_new2 (w1 := w6) HZa.out hb; clear HZa; have za := blk_cell hq.2 0; have ya := blk_frozen hq.2 0; have na := fun o => (blk_cell (blk_alloc hq.2 o) 0).trans rfl; have ma := fun o => blk_frozen (blk_alloc hq.2 o) 0; have nna := Nat.ne_of_lt (blk_lt hq.2); have mma := Nat.ne_of_gt (blk_lt hq.2); have HZa := Aside0.mk hq; clear hq) | (have hq := s6_new2a (w1 := w6) HZa.out hb; clear HZa; have za := blk_cell hq.2 0; have ya := blk_frozen hq.2 0; have na := fun o => (blk_cell (blk_alloc hq.2 o) 0).trans rfl; have ma := fun o => blk_frozen (blk_alloc hq.2 o) 0; have nna := Nat.ne_of_lt (blk_lt hq.2); have mma := Nat.ne_of_gt (blk_lt hq.2); have HZa := Aside0.mk hq; clear hq) | skip); (first | (have hq := s6_new2 (w1 := w6) HZb.out hb; clear HZb; have zb := blk_cell hq.2 0; have yb := blk_frozen hq.2 0; have HZb := Aside0.mk hq; clear hq) | skip); clear hb))
              all_goals
                go_wp2_with fail
                go_meet
                (refine ⟨_, _, num l (IntKind.i64.wrap (wrap64 (10 + wrap64 (11 * (Ss.length : Int))) + 3)) 4, num l (IntKind.i64.wrap (wrap64 (10 + wrap64 (11 * (Ss.length : Int))) + 7)) 4, rfl, rfl, fin_all ?_ ⟨N32.out _, N32.out _⟩ (by repeat (first | (with_reducible exact Below.refl _ _) | exact s6_bel (w1 := w6) (g := g) (p := p) (by assumption) | (with_reducible apply below_alloc) | (with_reducible apply below_drew) | refine below_set ?_ HZa.out.1 | refine below_set ?_ HZb.out.1 | refine below_set ?_ (s6_bel (w1 := w6) (g := g) (p := p) (by assumption)).size))⟩)
                (first | (with_reducible exact ⟨fin_new _ _ _, (s6_bel (w1 := w6) (g := g) (p := p) (by assumption)).size, Nat.le_succ_of_le (s6_bel (w1 := w6) (g := g) (p := p) (by assumption)).size⟩) | (with_reducible exact ⟨fin_wen _ _ _, Nat.le_succ_of_le (s6_bel (w1 := w6) (g := g) (p := p) (by assumption)).size, (s6_bel (w1 := w6) (g := g) (p := p) (by assumption)).size⟩) | (with_reducible exact ⟨fin_old HZa.out.2, HZa.out.1, (s6_bel (w1 := w6) (g := g) (p := p) (by assumption)).size⟩) | (with_reducible exact ⟨fin_both HZa.out.2 HZb.out.2 HNEab.out, HZa.out.1, HZb.out.1⟩) | (with_reducible exact ⟨fin_both HZb.out.2 HZa.out.2 HNEab.out.symm, HZb.out.1, HZa.out.1⟩) | (with_reducible exact ⟨fin_dlo HZa.out.2, (s6_bel (w1 := w6) (g := g) (p := p) (by assumption)).size, HZa.out.1⟩))
            case rest => as_aux_lemma =>
              obtain ⟨b10, b11, x10, x11, rfl, rfl, H10, H11, HX, HLE, HBW⟩ := hcut
              have HQ9 := Aside0.mk (HQ6.out.below HBW.out)
              have HB9 := Aside0.mk (blk_below HB6.out HBW.out)
              have HNT : Aside0 (b10 ≠ bt ∧ b11 ≠ bt) := ⟨by
                obtain ⟨tt, _, _, h⟩ := HQ6.out.tot
                have := blk_lt h
                have := HLE.out
                omega⟩
              have hc9 : wc.cell? ⟨bs, 0, none⟩ = some (.int .i64 code) := (blk_cell HB9.out 0).trans rfl
              have hc10 : wc.cell? ⟨b10, 0, none⟩ = some (.int .i64 x10) := (blk_cell H10.out 0).trans rfl
              clear HQ6 HB6 HCG HB0 HBW HLE
              go_upto_if 45 with (go_at_call 54; refine Calls.must ?_ ?_; (exact ⟨rfl, .inr ⟨51, by decide, rfl⟩, HQ9.out.bel⟩); intro hm1)
              go_cut [] from 45 to 51 (fun wx => ∃ pv : Value, Aside0 (Vq w g bt m p A c l f G v fn sv Ss wx) ∧ Aside0 (RowG wx pv) ∧ Aside0 (wx.heap[bs]? = some (.cells #[.int .i64 code, pv, .slice none 0 0] 99 (0, 0))) ∧ Aside0 (wx.heap[b11]? = some (.cells #[.int .i64 x11] 3 (0, 0))))
              case first =>
                have hd : (x10 != 0) = true ∨ (x10 != 0) = false := by cases (x10 != 0) <;> simp
                rcases hd with hd | hd
                · obtain ⟨tt, t0, t1, t2⟩ := HQ9.out.tot
                  have T := Aside0.mk (And.intro (And.intro t0 t1) t2)
                  clear t0 t1 t2 hc9
                  go_wp2_with (first | (go_at_call 74; ((with_reducible refine (more_lit wc wc g bt p A c l tt _ ⟨HQ9.out.blk, HQ9.out.view, Below.refl _ _⟩ T.out.2 T.out.1 HBy.out).mono ?_); rintro e w7 (⟨n7, w8, rfl, hn7, hb7, rfl⟩ | ⟨⟨cc, hcc, rfl⟩, hb7⟩); rotate_left; exact ⟨rfl, .inr ⟨cc, hcc, rfl⟩, (HQ9.out.below hb7).bel⟩; have HQ8 := Aside0.mk ((HQ9.out.below hb7).setTot (y := tt + n7) ⟨by have := T.out.1; omega, by omega⟩); have HN8 : Aside0 (n7 ≤ 4096) := ⟨by have := T.out.1; omega⟩; have HT8 := Aside0.mk (blk_below T.out.2 hb7); have HB8 := Aside0.mk (far_tot (blk_below HB9.out hb7) (blk_ne (blk_below HB9.out hb7) HT8.out (by decide)) (.int .i64 (tt + n7))); have HP8 := Aside0.mk (far_tot (blk_below H10.out hb7) HNT.out.1 (.int .i64 (tt + n7))); have HK8 := Aside0.mk (far_tot (blk_below H11.out hb7) HNT.out.2 (.int .i64 (tt + n7))); clear hn7 hb7 HT8)) | (go_at_call 67; ((with_reducible refine (rise_v2 (w0 := w8.setCell ⟨bt, 0, none⟩ (.int .i64 (tt + n7))) (g := g) (b := b10) (p := p) (A := A) (c := c) (l := l) (pl := x10) ⟨HQ8.out.blk, HQ8.out.view, Below.refl _ _⟩ HP8.out HX.out.1 HN8.out HBy.out).mono ?_); rintro e w9 ⟨⟨pv, rfl, L, t, ho, hLn, hG⟩ | ⟨cc, hcc, rfl⟩, hb9⟩; rotate_left; exact ⟨rfl, .inr ⟨cc, hcc, rfl⟩, (HQ8.out.below hb9).bel⟩; have HQA := Aside0.mk (HQ8.out.below hb9); have HBA := Aside0.mk (blk_below HB8.out hb9); have HKA := Aside0.mk (blk_below HK8.out hb9); obtain ⟨Apv, cpv, rfl⟩ := own_val ho; have HGA : Aside0 (RowG w9 (.slice Apv L.length cpv)) := ⟨⟨_, L, t, ho, hG, by have := HN8.out; omega⟩⟩; have hcA : w9.cell? ⟨bs, 1, none⟩ = some (.slice none 0 0) := (blk_cell HBA.out 1).trans rfl; have hfA := blk_frozen HBA.out 1; clear ho hLn hG hb9)))
                  go_meet
                  exact ⟨_, ⟨HQA.out.setSel HBA.out (by simp) (by simp) (by simp) HBS.out HNE.out 1 _⟩, ⟨HGA.out.set HBA.out (by decide) 1 _⟩, ⟨blk_set HBA.out 1 _⟩, ⟨blk_far HKA.out (blk_ne HKA.out HBA.out (by decide)) _⟩⟩
                · go_wp2_with fail
                  go_meet
                  exact ⟨_, HQ9, ⟨RowG.nil _⟩, HB9, H11⟩
              case rest =>
                obtain ⟨pv, HQB, HGP, HBB, HKB⟩ := hcut
                obtain ⟨Ap, np, cp, rfl⟩ := HGP.out.slice
                have hc11 := (blk_cell HKB.out 0).trans rfl
                have hc11 : wc.cell? ⟨b11, 0, none⟩ = some (.int .i64 x11) := hc11
                clear HQ9 HB9 H10 H11 hc9 hc10
                go_upto_if 53 with fail
                go_cut [] from 53 to 59 (fun wx => ∃ ov : Value, Aside0 (Vq w g bt m p A c l f G v fn sv Ss wx) ∧ Aside0 (RowG wx (.slice Ap np cp)) ∧ Aside0 (RowG wx ov) ∧ Aside0 (wx.heap[bs]? = some (.cells #[.int .i64 code, .slice Ap np cp, ov] 99 (0, 0))))
                case first =>
                  have hd : (x11 != 0) = true ∨ (x11 != 0) = false := by cases (x11 != 0) <;> simp
                  rcases hd with hd | hd
                  · obtain ⟨tt, t0, t1, t2⟩ := HQB.out.tot
                    have T := Aside0.mk (And.intro (And.intro t0 t1) t2)
                    clear t0 t1 t2
                    go_wp2_with (first | (go_at_call 74; ((with_reducible refine (more_lit wc wc g bt p A c l tt _ ⟨HQB.out.blk, HQB.out.view, Below.refl _ _⟩ T.out.2 T.out.1 HBy.out).mono ?_); rintro e w7 (⟨n7, w8, rfl, hn7, hb7, rfl⟩ | ⟨⟨cc, hcc, rfl⟩, hb7⟩); rotate_left; exact ⟨rfl, .inr ⟨cc, hcc, rfl⟩, (HQB.out.below hb7).bel⟩; have HQ8 := Aside0.mk ((HQB.out.below hb7).setTot (y := tt + n7) ⟨by have := T.out.1; omega, by omega⟩); have HN8 : Aside0 (n7 ≤ 4096) := ⟨by have := T.out.1; omega⟩; have HT8 := Aside0.mk (blk_below T.out.2 hb7); have HB8 := Aside0.mk (far_tot (blk_below HBB.out hb7) (blk_ne (blk_below HBB.out hb7) HT8.out (by decide)) (.int .i64 (tt + n7))); have HP8 := Aside0.mk (far_tot (blk_below HKB.out hb7) HNT.out.2 (.int .i64 (tt + n7))); have HG8 := Aside0.mk ((HGP.out.below hb7).set HT8.out (by decide) 0 (.int .i64 (tt + n7))); clear hn7 hb7 HT8)) | (go_at_call 67; ((with_reducible refine (rise_v3 (w0 := w8.setCell ⟨bt, 0, none⟩ (.int .i64 (tt + n7))) (g := g) (b := b11) (p := p) (A := A) (c := c) (l := l) (pl := x11) ⟨HQ8.out.blk, HQ8.out.view, Below.refl _ _⟩ HP8.out HX.out.2 HN8.out HBy.out).mono ?_); rintro e w9 ⟨⟨pv, rfl, L, t, ho, hLn, hG⟩ | ⟨cc, hcc, rfl⟩, hb9⟩; rotate_left; exact ⟨rfl, .inr ⟨cc, hcc, rfl⟩, (HQ8.out.below hb9).bel⟩; have HQA := Aside0.mk (HQ8.out.below hb9); have HBA := Aside0.mk (blk_below HB8.out hb9); have HG9 := Aside0.mk (HG8.out.below hb9); obtain ⟨Apv, cpv, rfl⟩ := own_val ho; have HGA : Aside0 (RowG w9 (.slice Apv L.length cpv)) := ⟨⟨_, L, t, ho, hG, by have := HN8.out; omega⟩⟩; have hcA : w9.cell? ⟨bs, 2, none⟩ = some (.slice none 0 0) := (blk_cell HBA.out 2).trans rfl; have hfA := blk_frozen HBA.out 2; clear ho hLn hG hb9)))
                    go_meet
                    exact ⟨_, ⟨HQA.out.setSel HBA.out (by simp) (by simp) (by simp) HBS.out HNE.out 2 _⟩, ⟨HG9.out.set HBA.out (by decide) 2 _⟩, ⟨HGA.out.set HBA.out (by decide) 2 _⟩, ⟨blk_set HBA.out 2 _⟩⟩
                  · go_wp2_with fail
                    go_meet
                    exact ⟨_, HQB, HGP, ⟨RowG.nil _⟩, HBB⟩
                case rest =>
                  obtain ⟨ov, HQD, HGP2, HGO, HBD⟩ := hcut
                  obtain ⟨Ao, no, co, rfl⟩ := HGO.out.slice
                  clear HQB HGP HBB HKB hc11 HX HNT
                  have hcm : wc.cell? ⟨m, 4, none⟩ = some sv := (blk_cell HQD.out.map 4).trans rfl
                  have hfm := blk_frozen HQD.out.map 4
                  have hs0 : wc.cell? ⟨bs, 0, none⟩ = some (.int .i64 code) := (blk_cell HBD.out 0).trans rfl
                  have hs1 : wc.cell? ⟨bs, 1, none⟩ = some (.slice Ap np cp) := (blk_cell HBD.out 1).trans rfl
                  have hs2 : wc.cell? ⟨bs, 2, none⟩ = some (.slice Ao no co) := (blk_cell HBD.out 2).trans rfl
                  have HI2 : Aside0 ((Try.prog.info? 99).map (fun i => (i.zero, i.size, i.bytes)) = some (some (.agg #[.int .i64 0, .slice none 0 0, .slice none 0 0]), 3, 56)) := ⟨by kernel_rfl⟩
                  have HL : Aside0 ((Ss.length + 1) * 56 ≤ 140737488355328) := ⟨by have := HLT.out; have := HN.out; omega⟩
                  have HSZ := Aside0.mk HQD.out.kp.1
                  have hqa : ∀ o, (wc.alloc o).cell? ⟨m, 4, none⟩ = some sv := fun o => (blk_cell (blk_alloc HQD.out.map o) 4).trans rfl
                  go_upto_region 16 with fail
                  go_region_law ((refine step_append_cells (w0 := wc.drew) (W := wc.drew) w.heap.size (by rfl) (.tmp 64) (.tmp 66) 91 99 (.agg #[.int .i64 0, .slice none 0 0, .slice none 0 0]) 3 56 (by rfl) Try.underlying91 HI2.out rfl (by decide) (by decide) sv Ss.length (Ss.flatMap selC) [.int .i64 code, .slice Ap np cp, .slice Ao no co] (by rfl) (by rfl) rfl (by simp [Value.oneCell']) HQD.out.row (Below.refl _ _) HSZ.out HL.out ?_; intro v1 w11 ho hbz hg hat; obtain ⟨A11, c11, rfl⟩ := own_val ho; have HO11 := Aside0.mk ho; have HG11 := Aside0.mk hg; have HM11 := Aside0.mk ((hg.block m (blk_lt HQD.out.map) (own_ne HQD.out.row HQD.out.map (by decide))).trans HQD.out.map); have hcm11 : w11.cell? ⟨m, 4, none⟩ = some sv := (blk_cell HM11.out 4).trans rfl; have hfm11 := blk_frozen HM11.out 4; clear ho hbz hg hat))
                  all_goals
                    have hsl : Ss.length < 4096 := by have := HLT.out; have := HN.out; omega
                    go_wp2
                    go_roundw
                    case rel =>
                      refine ⟨code, .slice A11 (Ss.length + 1) c11, Ss ++ [(code, .slice Ap np cp, .slice Ao no co)], rfl, ?_, ⟨?_⟩, ⟨(HQD.out.below (below_drew (Below.refl _ _))).push (s := (code, .slice Ap np cp, .slice Ao no co)) HV.out HM.out HVF.out.1 HVF.out.2 (HGP2.out.below (below_drew (Below.refl _ _))) (HGO.out.below (below_drew (Below.refl _ _))) HO11.out HG11.out⟩⟩
                      · rw [List.length_append, List.length_singleton]; first | rfl | go_num
                      · rw [List.length_append, List.length_singleton]; exact HLT.out
                    case measure => have := HLT.out; simp [intOf]; omega
          · exact ⟨rfl, .inr ⟨51, by decide, rfl⟩, HQ5.out.bel⟩
        · have hi : Ss.length = n := by have := HI.out; omega
          have d0 : decide ((Ss.length : Int) < (n : Int)) = false := decide_eq_false (by omega)
          have HIN := Aside0.mk hi
          clear hi
          go_wp2
          go_returns
          exact ⟨.inl ⟨rfl, HQ.out.kp, _, sv, Ss, HQ.out.row, HQ.out.sels, by have := HIN.out; have := HN.out; omega, HQ.out.map⟩, HQ.out.bel⟩
    · exact ⟨rfl, .inr ⟨cc, hcc, rfl⟩, HQ4.out.bel⟩
  · exact ⟨rfl, .inr ⟨51, by decide, rfl⟩, HB2.out.mono (Nat.le_of_lt HMS.out)⟩
end Go.Proofs.Ytebmfbfmdbimdaa.F
