/- Package cmap, whatever the bytes: groups read one by one by any closure that hands back a group or throws (CmapBounds). -/
import Derived.Test.YtebmfbfmdbimdaaZC12
import Derived.Test.YtebmfbfmdbimdaaZCmap5
namespace Go.Proofs.Ytebmfbfmdbimdaa.F
open Go.RowKit Go.Proofs.YtebmfbfmdbimdaaW.PrintWords Go.Proofs.YtebmfbfmdbimdaaW.PrintLast Go.Proofs.YtebmfbfmdbimdaaW.PrintMore Go.Proofs.Ytebmfbfmdbimdaa.rowQ
set_option linter.unusedVariables false
set_option linter.unusedSimpArgs false
/-- A group that may be kept. -/
def Gz (z : List Int) : Prop := z.length = 4 ∧ 0 ≤ z.getD 0 0 ∧ 0 ≤ z.getD 2 0 ∧ z.getD 2 0 ≤ 4294967296 ∧ (z.getD 3 0 = 0 ∨ z.getD 3 0 = 1)
/-- Groups that were kept: each may be, they rise, none ends behind t. -/
structure Gl (L : List (List Int)) (t : Int) : Prop where
  ok : ∀ z ∈ L, Gz z
  up : ∀ a b, a ≤ b → b < L.length → (L.getD a []).getD 1 0 ≤ (L.getD b []).getD 1 0
  top : ∀ a, a < L.length → (L.getD a []).getD 1 0 ≤ t
theorem Gl.step {L : List (List Int)} {t : Int} (h : Gl L t) {z : List Int} (hz : Gz z) (h1 : z.getD 0 0 ≤ z.getD 1 0) (h2 : t < z.getD 0 0) : Gl (L ++ [z]) (z.getD 1 0) := by
  have hl : ∀ a, a < L.length → (L ++ [z]).getD a [] = L.getD a [] := fun a ha => by
    rw [List.getD_eq_getElem?_getD, List.getElem?_append_left ha, ← List.getD_eq_getElem?_getD]
  have he : (L ++ [z]).getD L.length [] = z := by
    rw [List.getD_eq_getElem?_getD, List.getElem?_append_right (Nat.le_refl _)]
    simp
  refine ⟨fun y hy => ?_, fun a b hab hb => ?_, fun a ha => ?_⟩
  · rcases List.mem_append.1 hy with hy | hy
    · exact h.ok y hy
    · obtain rfl : y = z := by simpa using hy
      exact hz
  · rw [List.length_append, List.length_singleton] at hb
    by_cases hbl : b < L.length
    · rw [hl a (by omega), hl b hbl]
      exact h.up a b hab hbl
    · obtain rfl : b = L.length := by omega
      rw [he]
      by_cases hal : a < L.length
      · rw [hl a hal]
        have := h.top a hal
        omega
      · obtain rfl : a = L.length := by omega
        rw [he]
        exact Int.le_refl _
  · rw [List.length_append, List.length_singleton] at ha
    by_cases hal : a < L.length
    · rw [hl a hal]
      have := h.top a hal
      omega
    · obtain rfl : a = L.length := by omega
      rw [he]
      exact Int.le_refl _
set_option maxRecDepth 100000 in
set_option maxHeartbeats 2000000 in
theorem rising_any (g : Nat) (cb : Array Value) (n : Nat) (w : World) (eg : ∀ args w, (callFunc g args).run Try.prog w = .ok (.enter g args) w) (hn : n ≤ 4096)
    (hf : ∀ (i : Nat) (W : World), i < n → Below w.heap.size w W → Calls Try.prog g (#[.int .i64 i] ++ cb) W fun e w' => ((∃ x0 x4 x8 x9 : Int, e = .returned (.agg #[.int .i64 x0, .int .i64 x4, .int .i64 x8, .int .i64 x9]) ∧ Gz [x0, x4, x8, x9]) ∨ Thr e) ∧ Below W.heap.size W w') :
    Calls Try.prog 67 #[.int .i64 n, .func (.func g) #[] cb] w fun e w' => ((∃ (v : Value) (L : List (List Int)) (t : Int), e = .returned v ∧ w'.ownsRow w.heap.size 95 4 v L.length (L.flatten.map (Value.int .i64)) ∧ L.length = n ∧ Gl L t) ∨ Thr e) ∧ Below w.heap.size w w' := by
  have HF := Aside0.mk hf
  have HI : Aside0 ((Try.prog.info? 95).map (fun i => (i.zero, i.size, i.bytes)) = some (some (.agg #[.int .i64 0, .int .i64 0, .int .i64 0, .int .i64 0]), 4, 32)) := ⟨by kernel_rfl⟩
  clear hf
  go_enter Try.func67, Try.ntmps67
  go_wp2
  go_loopw [5, 6, 10] (fun v t s wr => ∃ (L : List (List Int)) (tt : Int), s = .int .i64 (L.length : Int) ∧ Aside0 (L.length ≤ n) ∧ t = .int .i64 tt ∧ Aside0 (Gl L tt) ∧ Aside0 (wr.ownsRow w.heap.size 95 4 v L.length (L.flatten.map (Value.int .i64))) ∧ Aside0 (Below w.heap.size w wr)) (fun _ _ s _ => n - (intOf s).toNat)
  case atStart => exact ⟨[], -1, rfl, ⟨Nat.zero_le _⟩, rfl, ⟨⟨fun z hz => by simp at hz, fun a b _ hb => by simp at hb, fun a ha => by simp at ha⟩⟩, ⟨World.ownsRow_nil _ _ _ _⟩, ⟨Below.refl _ _⟩⟩
  case round =>
    obtain ⟨L, tt, rfl, HN, rfl, HG, HO, HB⟩ := hrel
    by_cases hlt : L.length < n
    · have hc := HF.out L.length wr hlt HB.out
      have hl4 : L.length < 4096 := by omega
      go_wp2_with fail
      refine hc.mono ?_
      rintro e w1 ⟨⟨x0, x4, x8, x9, rfl, hz⟩ | ⟨cc, hcc, rfl⟩, hb⟩
      · have hB1 := below_then HB.out HB.out.size (below_alloc hb (.cells #[.int .i64 x0, .int .i64 x4, .int .i64 x8, .int .i64 x9] 95))
        have HO1 := Aside0.mk (pw_own_below HO.out (below_alloc hb (.cells #[.int .i64 x0, .int .i64 x4, .int .i64 x8, .int .i64 x9] 95)))
        have HB1 := Aside0.mk hB1
        have HL : Aside0 ((L.length + 1) * 32 ≤ 140737488355328) := ⟨by omega⟩
        have HZ := Aside0.mk hz
        have hd : decide (x0 ≤ x4) = false ∨ (decide (x0 ≤ x4) = true ∧ decide (tt < x0) = false) ∨ (decide (x0 ≤ x4) = true ∧ decide (tt < x0) = true) := by
          simp only [decide_eq_true_eq, decide_eq_false_iff_not]
          omega
        clear hc hb hB1 hz
        rcases hd with h1 | ⟨h1, h2⟩ | ⟨h1, h2⟩
        · go_wp2_with (go_at_call 54; (with_reducible refine (must_no 51 _).mono ?_); rintro e w6 ⟨rfl, rfl⟩)
          exact ⟨rfl, .inr ⟨51, by decide, rfl⟩, HB1.out⟩
        · go_wp2_with (go_at_call 54; (with_reducible refine (must_no 51 _).mono ?_); rintro e w6 ⟨rfl, rfl⟩)
          exact ⟨rfl, .inr ⟨51, by decide, rfl⟩, HB1.out⟩
        · have HG2 := Aside0.mk (HG.out.step HZ.out (of_decide_eq_true h1) (of_decide_eq_true h2))
          go_wp2_with (first | (go_at_call 54; (with_reducible refine (must_ok 51 _).mono ?_); rintro e w6 ⟨rfl, rfl⟩) | (at_builtin; (refine append_cells_at (w0 := w) w.heap.size (w1.heap.size + 1) rfl (.tmp 30) (.tmp 32) 90 95 (.agg #[.int .i64 0, .int .i64 0, .int .i64 0, .int .i64 0]) 4 32 rfl Try.underlying90 HI.out rfl (by decide) (by decide) u5 L.length _ [.int .i64 x0, .int .i64 x4, .int .i64 x8, .int .i64 x9] rfl rfl (by simp) rfl (by simp [Value.oneCell']) HO1.out HB1.out HB1.out.size HL.out ?_); intro v1 w5 ho hb; have HO5 := Aside0.mk ho; have HB5 := Aside0.mk hb; clear ho hb))
          go_roundw
          case rel =>
            refine ⟨L ++ [[x0, x4, x8, x9]], x4, by rw [List.length_append]; simp, ⟨by rw [List.length_append]; simp; omega⟩, rfl, HG2, ⟨?_⟩, HB5⟩
            rw [List.length_append, List.length_singleton, List.flatten_append, List.map_append]
            exact HO5.out
          case measure => simp [intOf]; omega
      · exact ⟨rfl, .inr ⟨cc, hcc, rfl⟩, below_then HB.out HB.out.size hb⟩
    · have hl : L.length = n := by have := HN.out; omega
      have d0 : decide ((L.length : Int) < (n : Int)) = false := decide_eq_false (by omega)
      have HLn := Aside0.mk hl
      go_wp2
      go_ret
      exact ⟨.inl ⟨_, L, tt, rfl, HO.out, HLn.out, HG.out⟩, HB.out⟩
end Go.Proofs.Ytebmfbfmdbimdaa.F
