/- Package cmap, whatever the bytes: subtables of the forms 0 and 6 (CmapBounds). -/
import Derived.Test.YtebmfbfmdbimdaaZCmapBc
namespace Go.Proofs.Ytebmfbfmdbimdaa.F
open Go.RowKit Go.Proofs.YtebmfbfmdbimdaaW.PrintWords Go.Proofs.YtebmfbfmdbimdaaW.PrintLast Go.Proofs.YtebmfbfmdbimdaaW.PrintMore
set_option linter.unusedVariables false
set_option linter.unusedSimpArgs false
set_option maxRecDepth 100000 in
set_option maxHeartbeats 2000000 in
theorem rising_big (g : Nat) (cb : Array Value) (n : Nat) (w : World) (eg : ∀ args w, (callFunc g args).run Try.prog w = .ok (.enter g args) w) (hn : n ≤ 65536)
    (hf : ∀ (i : Nat) (W : World), i < n → Below w.heap.size w W → Calls Try.prog g (#[.int .i64 i] ++ cb) W fun e w' => ((∃ x0 x4 x8 x9 : Int, e = .returned (.agg #[.int .i64 x0, .int .i64 x4, .int .i64 x8, .int .i64 x9]) ∧ Gz [x0, x4, x8, x9]) ∨ Thr e) ∧ Below W.heap.size W w') :
    Calls Try.prog 67 #[.int .i64 n, .func (.func g) #[] cb] w fun e w' => ((∃ (v : Value) (L : List (List Int)) (t : Int), e = .returned v ∧ w'.ownsRow w.heap.size 95 4 v L.length (L.flatten.map (Value.int .i64)) ∧ L.length = n ∧ Gl L t) ∨ Thr e) ∧ Below w.heap.size w w' := by
  have HF := Aside0.mk hf
  have HI : Aside0 ((Try.prog.info? 95).map (fun i => (i.zero, i.size, i.bytes)) = some (some (.agg #[.int .i64 0, .int .i64 0, .int .i64 0, .int .i64 0]), 4, 32)) := ⟨by kernel_rfl⟩
  clear hf
  go_enter Try.func67, Try.ntmps67
  go_wp2
  go_loopw [5, 6, 10] (fun v t s wr => ∃ (L : List (List Int)) (tt : Int), s = .int .i64 (L.length : Int) ∧ Aside0 (L.length ≤ n) ∧ t = .int .i64 tt ∧ Aside0 (Gl L tt) ∧ Aside0 (wr.ownsRow w.heap.size 95 4 v L.length (L.flatten.map (Value.int .i64))) ∧ Aside0 (Below w.heap.size w wr)) (fun _ _ s _ => n - (intOf s).toNat)
  case atStart => exact ⟨[], -1, rfl, ⟨Nat.zero_le _⟩, rfl, ⟨⟨fun z hz => by simp at hz, fun a b _ hb => by simp at hb, fun a ha => by simp at ha⟩⟩, ⟨World.ownsRow_nil _ _ _ _⟩, ⟨Below.refl _ _⟩⟩
  case round =>
    obtain ⟨L, tt, rfl, HN, rfl, HG, HO, HB⟩ := hrel
    by_cases hlt : L.length < n
    · have hc := HF.out L.length wr hlt HB.out
      have hl4 : L.length < 65536 := by omega
      go_wp2_with fail
      refine hc.mono ?_
      rintro e w1 ⟨⟨x0, x4, x8, x9, rfl, hz⟩ | ⟨cc, hcc, rfl⟩, hb⟩
      · have hB1 := below_then HB.out HB.out.size (below_alloc hb (.cells #[.int .i64 x0, .int .i64 x4, .int .i64 x8, .int .i64 x9] 95))
        have HO1 := Aside0.mk (pw_own_below HO.out (below_alloc hb (.cells #[.int .i64 x0, .int .i64 x4, .int .i64 x8, .int .i64 x9] 95)))
        have HB1 := Aside0.mk hB1
        have HL : Aside0 ((L.length + 1) * 32 ≤ 140737488355328) := ⟨by omega⟩
        have HZ := Aside0.mk hz
        have hd : decide (x0 ≤ x4) = false ∨ (decide (x0 ≤ x4) = true ∧ decide (tt < x0) = false) ∨ (decide (x0 ≤ x4) = true ∧ decide (tt < x0) = true) := by
          simp only [decide_eq_true_eq, decide_eq_false_iff_not]
          omega
        clear hc hb hB1 hz
        rcases hd with h1 | ⟨h1, h2⟩ | ⟨h1, h2⟩
        · go_wp2_with (go_at_call 54; (with_reducible refine (must_no 51 _).mono ?_); rintro e w6 ⟨rfl, rfl⟩)
          exact ⟨rfl, .inr ⟨51, by decide, rfl⟩, HB1.out⟩
        · go_wp2_with (go_at_call 54; (with_reducible refine (must_no 51 _).mono ?_); rintro e w6 ⟨rfl, rfl⟩)
          exact ⟨rfl, .inr ⟨51, by decide, rfl⟩, HB1.out⟩
        · have HG2 := Aside0.mk (HG.out.step HZ.out (of_decide_eq_true h1) (of_decide_eq_true h2))
          go_wp2_with (first | (go_at_call 54; (with_reducible refine (must_ok 51 _).mono ?_); rintro e w6 ⟨rfl, rfl⟩) | (at_builtin; (refine append_cells_at (w0 := w) w.heap.size (w1.heap.size + 1) rfl (.tmp 30) (.tmp 32) 90 95 (.agg #[.int .i64 0, .int .i64 0, .int .i64 0, .int .i64 0]) 4 32 rfl Try.underlying90 HI.out rfl (by decide) (by decide) u5 L.length _ [.int .i64 x0, .int .i64 x4, .int .i64 x8, .int .i64 x9] rfl rfl (by simp) rfl (by simp [Value.oneCell']) HO1.out HB1.out HB1.out.size HL.out ?_); intro v1 w5 ho hb; have HO5 := Aside0.mk ho; have HB5 := Aside0.mk hb; clear ho hb))
          go_roundw
          case rel =>
            refine ⟨L ++ [[x0, x4, x8, x9]], x4, by rw [List.length_append]; simp, ⟨by rw [List.length_append]; simp; omega⟩, rfl, HG2, ⟨?_⟩, HB5⟩
            rw [List.length_append, List.length_singleton, List.flatten_append, List.map_append]
            exact HO5.out
          case measure => simp [intOf]; omega
      · exact ⟨rfl, .inr ⟨cc, hcc, rfl⟩, below_then HB.out HB.out.size hb⟩
    · have hl : L.length = n := by have := HN.out; omega
      have d0 : decide ((L.length : Int) < (n : Int)) = false := decide_eq_false (by omega)
      have HLn := Aside0.mk hl
      go_wp2
      go_ret
      exact ⟨.inl ⟨_, L, tt, rfl, HO.out, HLn.out, HG.out⟩, HB.out⟩
theorem big_thr {g : Nat} {cb : Array Value} {n : Nat} {w : World} (eg : ∀ args w, (callFunc g args).run Try.prog w = .ok (.enter g args) w) (hn : n ≤ 65536)
    (hf : ∀ (i : Nat) (W : World), i < n → Below w.heap.size w W → Calls Try.prog g (#[.int .i64 i] ++ cb) W fun e w' => ((∃ x0 x4 x8 x9 : Int, e = .returned (.agg #[.int .i64 x0, .int .i64 x4, .int .i64 x8, .int .i64 x9]) ∧ Gz [x0, x4, x8, x9]) ∨ Thr e) ∧ Below W.heap.size W w') :
    Calls Try.prog 67 #[.int .i64 n, .func (.func g) #[] cb] w fun e w' => ((∃ x : Value, e = .returned x ∧ ∃ (L : List (List Int)) (t : Int), w'.ownsRow w.heap.size 95 4 x L.length (L.flatten.map (Value.int .i64)) ∧ L.length = n ∧ Gl L t) ∨ Thr e) ∧ Below w.heap.size w w' :=
  (rising_big g cb n w eg hn hf).mono fun e w' ⟨he, hb⟩ => ⟨he.imp (fun ⟨v, L, t, h1, h2, h3, h4⟩ => ⟨v, h1, L, t, h2, h3, h4⟩) id, hb⟩
theorem rise0 {w : World} {b : Nat} {A : Option Addr} {c : Nat} {l : List Int} (hc : w.heap[b]? = some (.cells #[.slice A l.length c] 60 (0, 0))) (hR : Kd.C (Kd.int .u8) w A l.length l) (hb : ∀ z ∈ l, 0 ≤ z ∧ z ≤ 255) (hl : l.length = 256) :
    Calls Try.prog 67 #[.int .i64 256, .func (.func 68) #[] #[.pointer (some ⟨b, 0, none⟩)]] w fun e w' => ((∃ x : Value, e = .returned x ∧ ∃ (L : List (List Int)) (t : Int), w'.ownsRow w.heap.size 95 4 x L.length (L.flatten.map (Value.int .i64)) ∧ L.length = 256 ∧ Gl L t) ∨ Thr e) ∧ Below w.heap.size w w' :=
  big_thr (n := 256) (enters_of Try.func68 (by kernel_rfl) rfl) (by decide) fun i W hi hbw => sub1_any W b A c l i ((blk_cell (blk_below hc hbw) 0).trans rfl) (Kd.C_below hR hbw) hb (by omega) (by omega)
theorem rise6 {w : World} {b1 b2 : Nat} {A : Option Addr} {c : Nat} {l : List Int} {x : Int} (hx : w.heap[b1]? = some (.cells #[.int .i64 x] 3 (0, 0))) (hc : w.heap[b2]? = some (.cells #[.slice A l.length c] 47 (0, 0))) (hR : Kd.C (Kd.int .i64) w A l.length l) (hb : ∀ z ∈ l, 0 ≤ z ∧ z ≤ 65535) (hx0 : 0 ≤ x ∧ x ≤ 65535) (hl : l.length ≤ 65536) :
    Calls Try.prog 67 #[.int .i64 (l.length : Int), .func (.func 71) #[] #[.pointer (some ⟨b1, 0, none⟩), .pointer (some ⟨b2, 0, none⟩)]] w fun e w' => ((∃ x : Value, e = .returned x ∧ ∃ (L : List (List Int)) (t : Int), w'.ownsRow w.heap.size 95 4 x L.length (L.flatten.map (Value.int .i64)) ∧ L.length = l.length ∧ Gl L t) ∨ Thr e) ∧ Below w.heap.size w w' :=
  big_thr (enters_of Try.func71 (by kernel_rfl) rfl) hl fun i W hi hbw => sub2_any W b1 b2 A c l i x ((blk_cell (blk_below hx hbw) 0).trans rfl) ((blk_cell (blk_below hc hbw) 0).trans rfl) (Kd.C_below hR hbw) hb hx0 hi (by omega)
/-- Bytes of a view's copy. -/
theorem part_byte {l : List Int} {a n : Int} (h : ∀ z ∈ l, 0 ≤ z ∧ z ≤ 255) : ∀ z ∈ partL l a n, 0 ≤ z ∧ z ≤ 255 := fun z hz => h z (part_mem hz)
set_option maxRecDepth 100000 in
set_option maxHeartbeats 4000000 in
theorem subt_0n (w : World) (m p : Nat) (A : Option Addr) (c : Nat) (l : List Int) (G : Int) (hv : View w p A c l) (hm0 : w.heap[m]? = some (.cells #[.int .i64 0, .int .i64 G, .slice none 0 0, .nilFunc, .slice none 0 0] 93 (0, 0))) (hb : ∀ z ∈ l, 0 ≤ z ∧ z ≤ 255) (hl : l.length < 140737488355328)
    (h0 : partOk l 0 2) (hf : num l 0 2 = 0) (hp : ¬ partOk l 6 256) :
    Calls Try.prog 57 #[.agg #[.pointer (some ⟨p, 0, none⟩)], .pointer (some ⟨m, 0, none⟩)] w fun e w' => ((e = .returned (.tuple #[]) ∧ SubOk m p A c l G w') ∨ Thr e) ∧ Below m w w' := by
  have C0 := Aside0.mk (fun W (hv : View W p A c l) => cu16_ok p A c l 0 W hv hb h0)
  rw [hf] at C0
  obtain ⟨f, hff, C0⟩ : ∃ f : Int, f = 0 ∧ Aside0 (∀ W, View W p A c l → Calls Try.prog 61 #[.agg #[.pointer (some ⟨p, 0, none⟩)], .int .i64 0] W fun e w2 => e = .returned (.int .i64 f) ∧ Below W.heap.size W w2) := ⟨0, rfl, C0⟩
  have HFF := Aside0.mk hff
  have HP := Aside0.mk hp
  have HV := Aside0.mk hv
  have HM := Aside0.mk hm0
  have HBy := Aside0.mk hb
  have HLL := Aside0.mk hl
  have hmf : ∀ (fn : Fn) (first cap : Array Value) (w : World), (Instr.makeFunc fn first cap).run Try.prog w = .ok (.func fn first cap) w := fun _ _ _ _ => rfl
  clear hv hm0 hb hl h0 hf hff hp
  go_enter Try.func57, Try.ntmps57
  go_upto_region 1 with fail
  have hs : Sb w w.heap.size (w.heap.size + 1) m p A c l 0 G ((w.alloc (.cells #[.pointer (some ⟨p, 0, none⟩)] 114)).alloc (.cells #[.pointer (some ⟨m, 0, none⟩)] 57)) := by
    have hq : ((w.alloc (.cells #[.pointer (some ⟨p, 0, none⟩)] 114)).alloc (.cells #[.pointer (some ⟨m, 0, none⟩)] 57)).heap[w.heap.size + 1]? = some (.cells #[.pointer (some ⟨m, 0, none⟩)] 57 (0, 0)) := by
      have := blk_new (w.alloc (.cells #[.pointer (some ⟨p, 0, none⟩)] 114)) (.cells #[.pointer (some ⟨m, 0, none⟩)] 57)
      rwa [show (w.alloc (.cells #[.pointer (some ⟨p, 0, none⟩)] 114)).heap.size = w.heap.size + 1 from by simp] at this
    have hbw := below_alloc (below_alloc (Below.refl w.heap.size w) (.cells #[.pointer (some ⟨p, 0, none⟩)] 114)) (.cells #[.pointer (some ⟨m, 0, none⟩)] 57)
    exact ⟨blk_alloc (blk_new _ _) _, hq, blk_below HM.out hbw, HV.out.below hbw, hbw.mono (Nat.le_of_lt (blk_lt HM.out))⟩
  have hgs : w.heap.size ≤ w.heap.size ∧ w.heap.size ≤ w.heap.size + 1 := ⟨Nat.le_refl _, Nat.le_succ _⟩
  obtain ⟨g, hg⟩ : ∃ g, g = w.heap.size := ⟨_, rfl⟩
  obtain ⟨h, hh⟩ : ∃ h, h = w.heap.size + 1 := ⟨_, rfl⟩
  rw [← hh, ← hg] at hs ⊢
  generalize (w.alloc (.cells #[.pointer (some ⟨p, 0, none⟩)] 114)).alloc (.cells #[.pointer (some ⟨m, 0, none⟩)] 57) = w1 at *
  have HS := Aside0.mk hs
  have HGH : Aside0 (m < g ∧ m < h) := ⟨by have := blk_lt HM.out; omega⟩
  clear hs hgs hg hh HV HM
  go_cut [] from 10 to 14 (fun wx => Aside0 (Sb w g h m p A c l f G wx))
  case first =>
    have hcg := (blk_cell HS.out.blk 0).trans rfl
    have hch := (blk_cell HS.out.ptr 0).trans rfl
    have hcm := (blk_cell HS.out.map 0).trans rfl
    have hfm := blk_frozen HS.out.map 0
    go_region_with (first | (go_at_call 61; ((with_reducible refine (C0.out _ (HS.out.below (below_drew (Below.refl _ _))).view).mono ?_); rintro e w5 ⟨rfl, hb⟩; have HS5 := Aside0.mk (HS.out.below (Below.trans (below_drew (Below.refl _ _)) hb)); have hch5 := (blk_cell HS5.out.ptr 0).trans rfl; have hcm5 := (blk_cell HS5.out.map 0).trans rfl; have hfm5 := blk_frozen HS5.out.map 0; clear hb)))
    all_goals
      go_wp2_with fail
      go_meet
      exact ⟨HS5.out.form f⟩
  case rest =>
    have HS := hcut
    have hcg : wc.cell? ⟨g, 0, none⟩ = some (.pointer (some ⟨p, 0, none⟩)) := (blk_cell HS.out.blk 0).trans rfl
    have hch : wc.cell? ⟨h, 0, none⟩ = some (.pointer (some ⟨m, 0, none⟩)) := (blk_cell HS.out.ptr 0).trans rfl
    have hcm : wc.cell? ⟨m, 0, none⟩ = some (.int .i64 f) := (blk_cell HS.out.map 0).trans rfl
    clear hcut C0
    obtain rfl := HFF.out
    go_wp2_with (first | (go_at_call 64; ((with_reducible refine (peek_Cut_no p A c l 6 256 _ HS.out.view HP.out).mono ?_); rintro e w5 ⟨rfl, rfl⟩)) | (go_at_call 54; (with_reducible refine (must_no 51 _).mono ?_); rintro e w6 ⟨rfl, rfl⟩))
    exact ⟨rfl, .inr ⟨51, by decide, rfl⟩, HS.out.keep⟩
set_option maxRecDepth 100000 in
set_option maxHeartbeats 4000000 in
theorem subt_0 (w : World) (m p : Nat) (A : Option Addr) (c : Nat) (l : List Int) (G : Int) (hv : View w p A c l) (hm0 : w.heap[m]? = some (.cells #[.int .i64 0, .int .i64 G, .slice none 0 0, .nilFunc, .slice none 0 0] 93 (0, 0))) (hb : ∀ z ∈ l, 0 ≤ z ∧ z ≤ 255) (hl : l.length < 140737488355328)
    (h0 : partOk l 0 2) (hf : num l 0 2 = 0) (hp : partOk l 6 256) :
    Calls Try.prog 57 #[.agg #[.pointer (some ⟨p, 0, none⟩)], .pointer (some ⟨m, 0, none⟩)] w fun e w' => ((e = .returned (.tuple #[]) ∧ SubOk m p A c l G w') ∨ Thr e) ∧ Below m w w' := by
  have C0 := Aside0.mk (fun W (hv : View W p A c l) => cu16_ok p A c l 0 W hv hb h0)
  rw [hf] at C0
  obtain ⟨f, hff, C0⟩ : ∃ f : Int, f = 0 ∧ Aside0 (∀ W, View W p A c l → Calls Try.prog 61 #[.agg #[.pointer (some ⟨p, 0, none⟩)], .int .i64 0] W fun e w2 => e = .returned (.int .i64 f) ∧ Below W.heap.size W w2) := ⟨0, rfl, C0⟩
  have HFF := Aside0.mk hff
  have HP := Aside0.mk hp
  have HPL : Aside0 ((partL l 6 256).length = 256) := ⟨partL_length hp⟩
  have HV := Aside0.mk hv
  have HM := Aside0.mk hm0
  have HBy := Aside0.mk hb
  have HLL := Aside0.mk hl
  have hmf : ∀ (fn : Fn) (first cap : Array Value) (w : World), (Instr.makeFunc fn first cap).run Try.prog w = .ok (.func fn first cap) w := fun _ _ _ _ => rfl
  clear hv hm0 hb hl h0 hf hff hp
  go_enter Try.func57, Try.ntmps57
  go_upto_region 1 with fail
  have hs : Sb w w.heap.size (w.heap.size + 1) m p A c l 0 G ((w.alloc (.cells #[.pointer (some ⟨p, 0, none⟩)] 114)).alloc (.cells #[.pointer (some ⟨m, 0, none⟩)] 57)) := by
    have hq : ((w.alloc (.cells #[.pointer (some ⟨p, 0, none⟩)] 114)).alloc (.cells #[.pointer (some ⟨m, 0, none⟩)] 57)).heap[w.heap.size + 1]? = some (.cells #[.pointer (some ⟨m, 0, none⟩)] 57 (0, 0)) := by
      have := blk_new (w.alloc (.cells #[.pointer (some ⟨p, 0, none⟩)] 114)) (.cells #[.pointer (some ⟨m, 0, none⟩)] 57)
      rwa [show (w.alloc (.cells #[.pointer (some ⟨p, 0, none⟩)] 114)).heap.size = w.heap.size + 1 from by simp] at this
    have hbw := below_alloc (below_alloc (Below.refl w.heap.size w) (.cells #[.pointer (some ⟨p, 0, none⟩)] 114)) (.cells #[.pointer (some ⟨m, 0, none⟩)] 57)
    exact ⟨blk_alloc (blk_new _ _) _, hq, blk_below HM.out hbw, HV.out.below hbw, hbw.mono (Nat.le_of_lt (blk_lt HM.out))⟩
  have hgs : w.heap.size ≤ w.heap.size ∧ w.heap.size ≤ w.heap.size + 1 := ⟨Nat.le_refl _, Nat.le_succ _⟩
  obtain ⟨g, hg⟩ : ∃ g, g = w.heap.size := ⟨_, rfl⟩
  obtain ⟨h, hh⟩ : ∃ h, h = w.heap.size + 1 := ⟨_, rfl⟩
  rw [← hh, ← hg] at hs ⊢
  generalize (w.alloc (.cells #[.pointer (some ⟨p, 0, none⟩)] 114)).alloc (.cells #[.pointer (some ⟨m, 0, none⟩)] 57) = w1 at *
  have HS := Aside0.mk hs
  have HGH : Aside0 (m < g ∧ m < h) := ⟨by have := blk_lt HM.out; omega⟩
  clear hs hgs hg hh HV HM
  go_cut [] from 10 to 14 (fun wx => Aside0 (Sb w g h m p A c l f G wx))
  case first =>
    have hcg := (blk_cell HS.out.blk 0).trans rfl
    have hch := (blk_cell HS.out.ptr 0).trans rfl
    have hcm := (blk_cell HS.out.map 0).trans rfl
    have hfm := blk_frozen HS.out.map 0
    go_region_with (first | (go_at_call 61; ((with_reducible refine (C0.out _ (HS.out.below (below_drew (Below.refl _ _))).view).mono ?_); rintro e w5 ⟨rfl, hb⟩; have HS5 := Aside0.mk (HS.out.below (Below.trans (below_drew (Below.refl _ _)) hb)); have hch5 := (blk_cell HS5.out.ptr 0).trans rfl; have hcm5 := (blk_cell HS5.out.map 0).trans rfl; have hfm5 := blk_frozen HS5.out.map 0; clear hb)))
    all_goals
      go_wp2_with fail
      go_meet
      exact ⟨HS5.out.form f⟩
  case rest =>
    have HS := hcut
    have hcg : wc.cell? ⟨g, 0, none⟩ = some (.pointer (some ⟨p, 0, none⟩)) := (blk_cell HS.out.blk 0).trans rfl
    have hch : wc.cell? ⟨h, 0, none⟩ = some (.pointer (some ⟨m, 0, none⟩)) := (blk_cell HS.out.ptr 0).trans rfl
    have hcm : wc.cell? ⟨m, 0, none⟩ = some (.int .i64 f) := (blk_cell HS.out.map 0).trans rfl
    clear hcut C0
    obtain rfl := HFF.out
    have HPB := Aside0.mk (part_byte (a := 6) (n := 256) HBy.out)
    go_upto_region 8 with (first | (go_at_call 64; ((with_reducible refine (peek_Cut.calls p A c l 6 256 _ HS.out.view HP.out).mono ?_); rintro e w3 ⟨q, B, d, rfl, hq, hvq, hb⟩; have HS3 := Aside0.mk (HS.out.below hb); have HV3 := Aside0.mk hvq; clear hb hq hvq)) | (go_at_call 54; (with_reducible refine (must_ok 51 _).mono ?_); rintro e w4 ⟨rfl, rfl⟩) | (go_at_call 66; ((with_reducible refine (peek_Bytes.calls q B d _ _ HV3.out (by rw [HPL.out]; decide)).mono ?_); rintro e w4 ⟨v4, rfl, ho, hb⟩; obtain ⟨A4, c4, ev4⟩ := Kd.R_slice ho; subst ev4; have HS4 := Aside0.mk (HS3.out.below hb); have HR4 := Aside0.mk (Kd.R_reads' ho).2.2; clear hb ho)))
    have HS5 := Aside0.mk (HS4.out.below (below_alloc (Below.refl _ _) (.cells #[.slice A4 (partL l 6 256).length c4] 60)))
    have hb5 := blk_new w4 (.cells #[.slice A4 (partL l 6 256).length c4] 60)
    have hr5 := Kd.C_below HR4.out (below_alloc (Below.refl _ _) (.cells #[.slice A4 (partL l 6 256).length c4] 60))
    obtain ⟨b5, hb5e⟩ : ∃ b5, b5 = w4.heap.size := ⟨_, rfl⟩
    rw [← hb5e] at hb5 ⊢
    generalize w4.alloc _ = w5 at *
    generalize partL l 6 256 = L4 at *
    have HB5 := Aside0.mk hb5
    have HR5 := Aside0.mk hr5
    have hch5 : w5.cell? ⟨h, 0, none⟩ = some (.pointer (some ⟨m, 0, none⟩)) := (blk_cell HS5.out.ptr 0).trans rfl
    clear hb5 hr5 hb5e HS4 HS3 HS HR4 HV3 HP hcg hch hcm
    go_region_with (first | (go_at_call 67; ((with_reducible refine Calls.thrown (rise0 (blk_below HB5.out (below_drew (Below.refl _ _))) (Kd.C_below HR5.out (below_drew (Below.refl _ _))) HPB.out HPL.out) ?_ ?_); (intro cc w6 hcc hb; exact ⟨rfl, .inr ⟨cc, hcc, rfl⟩, (HS5.out.below (Below.trans (below_drew (Below.refl _ _)) hb)).keep⟩); intro v w6 hg hb; obtain ⟨L, t, ho, hLn, hG⟩ := hg; obtain ⟨Av, cv, rfl⟩ := own_val ho; have HS6 := Aside0.mk (HS5.out.below (Below.trans (below_drew (Below.refl _ _)) hb)); have HO6 := Aside0.mk ho; have HG6 := Aside0.mk (And.intro hLn hG); have hch6 : w6.cell? ⟨h, 0, none⟩ = some (.pointer (some ⟨m, 0, none⟩)) := (blk_cell HS6.out.ptr 0).trans rfl; have hcm6 : w6.cell? ⟨m, 2, none⟩ = some (.slice none 0 0) := (blk_cell HS6.out.map 2).trans rfl; have hfm6 := blk_frozen HS6.out.map 2; clear hb ho hLn hG)))
    all_goals
      go_wp2
      go_returns
      exact ⟨.inl ⟨rfl, .inl ⟨_, _, _, L, t, own_setCell HO6.out (own_ne HO6.out HS6.out.map (by decide)) _, by have := HG6.out.1; omega, HG6.out.2, blk_set HS6.out.map 2 _⟩⟩, HS6.out.keep.setCell (Nat.le_refl _) _⟩
end Go.Proofs.Ytebmfbfmdbimdaa.F
