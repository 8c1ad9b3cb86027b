/- Package cmap: groups read one by one (form 12 or 13), walked. -/
import Derived.Test.YtebmfbfmdbimdaaZCmap4s
namespace Go.Proofs.Ytebmfbfmdbimdaa.F
open Go.RowKit Go.Proofs.YtebmfbfmdbimdaaW.PrintWords Go.Proofs.YtebmfbfmdbimdaaW.PrintLast Go.Proofs.YtebmfbfmdbimdaaW.PrintMore Go.Proofs.Ytebmfbfmdbimdaa.rowQ
set_option linter.unusedVariables false
set_option linter.unusedSimpArgs false
/-- append of one element of several cells to a row of the call's own. -/
theorem append_cells_at {P : Program} {ops : Array Oper} {rest : List Oper} {o : Oper} {a : Act} {Q : Exit → Act → World → Prop} {w0 W : World} (base N : Nat) (hgd : o.guard = none) (s x : Operand) (t e : TypeId) (z : Value) (q bytes : Nat)
    (ho : o.op = .call { callee := .builtin .append, args := #[s, x], argTypes := #[t, t] })
    (ht : P.underlying t = some (.slice e)) (hinfo : (P.info? e).map (fun i => (i.zero, i.size, i.bytes)) = some (some z, q, bytes)) (hzs : z.cells.size = q) (hq : 0 < q) (hb0 : 0 < bytes)
    (v : Value) (n : Nat) (xs ys : List Value) (hs : a.eval s = v) (hx : a.eval x = .slice (some ⟨N, 0, none⟩) 1 1) (hN : N = W.heap.size) (hyl : ys.length = q) (h1 : ∀ u ∈ ys, u.oneCell' = true)
    (HO : W.ownsRow base e q v n xs) (HB : Below base w0 W) (hbase : base ≤ W.heap.size) (hl : (n + 1) * bytes ≤ 140737488355328)
    (h : ∀ v1 w1, w1.ownsRow base e q v1 (n + 1) (xs ++ ys) → Below base w0 w1 → wpList P ops Q rest (a.put o.dst v1) w1) :
    wpList P ops Q (o :: rest) a (W.alloc (.cells ys.toArray e)) := by
  subst hN
  obtain ⟨i, hi, hz0, hz1, hz2⟩ := info_parts hinfo
  have hn : n + 1 ≤ maxLen := by
    have := Nat.le_trans (Nat.le_mul_of_pos_right (n + 1) hb0) hl
    simp only [maxLen]
    omega
  refine wpList_append_own _ hgd s x t ho base e i z q bytes ht hi hz0 hz1 hz2 hzs hq v n xs hs (pw_own_below HO (below_alloc (Below.refl _ _) _)) ⟨W.heap.size, 0, none⟩ 1 1 ys hx (by rw [hyl, Nat.one_mul]) ?_ h1 hn hl (by simp; omega) (fun v1 w1 hown hg _ => ?_)
  · intro j u hu
    have ea : (⟨W.heap.size, 0, none⟩ : Addr).add j = ⟨W.heap.size, j, none⟩ := by
      unfold Addr.add
      split
      · rename_i h0; rw [h0]
      · simp
    rw [ea, blk_cell (blk_new W (.cells ys.toArray e))]
    simpa using hu
  · exact h v1 w1 hown (pw_below_grown (HB.alloc hbase _) _ (by simp; omega) hg (fun k hk => own_base HO k hk))
/-- A group of a table's. -/
def grp (l : List Int) (f : Int) (i : Nat) : List Int := [num l (16 + 12 * i) 4, num l (20 + 12 * i) 4, num l (24 + 12 * i) 4, 13 - f]
def grps (l : List Int) (f : Int) (n : Nat) : List Int := ((List.range n).map (grp l f)).flatten
theorem grps_succ (l : List Int) (f : Int) (n : Nat) : grps l f (n + 1) = grps l f n ++ grp l f n := by
  unfold grps
  rw [List.range_succ, List.map_append, List.flatten_append]
  simp
/-- The end of the group ahead. -/
def prevTo (l : List Int) : Nat → Int
  | 0 => -1
  | i + 1 => num l (20 + 12 * i) 4
set_option maxRecDepth 100000 in
set_option maxHeartbeats 4000000 in
theorem rising3_ok (w : World) (g h m p : Nat) (A : Option Addr) (c : Nat) (l : List Int) (f G : Int) (n : Nat) (x : Cw w g h m p A c l f G w) (hb : ∀ z ∈ l, 0 ≤ z ∧ z ≤ 255) (hn : n ≤ 4096) (hl : 16 + 12 * n ≤ l.length) (hm : ∀ i, i < n → num l (20 + 12 * i) 4 ≤ 1114111) (hf : 0 ≤ f ∧ f ≤ 65535)
    (hr : ∀ i, i < n → num l (16 + 12 * i) 4 ≤ num l (20 + 12 * i) 4 ∧ prevTo l i < num l (16 + 12 * i) 4) :
    Calls Try.prog 67 #[.int .i64 n, .func (.func 73) #[] #[.pointer (some ⟨g, 0, none⟩), .pointer (some ⟨h, 0, none⟩)]] w fun e w' => ∃ v : Value, e = .returned v ∧ w'.ownsRow w.heap.size 95 4 v n ((grps l f n).map (Value.int .i64)) ∧ Below w.heap.size w w' := by
  have HS := Aside0.mk (fun (W : World) (i : Nat) (hi : i < n) (xx : Cw W g h m p A c l f G W) => sub3_ok W g h m p A c l f G i xx hb (by omega) (by omega) (hm i hi) hf)
  have HX := Aside0.mk x
  have HR := Aside0.mk hr
  have HI : Aside0 ((Try.prog.info? 95).map (fun i => (i.zero, i.size, i.bytes)) = some (some (.agg #[.int .i64 0, .int .i64 0, .int .i64 0, .int .i64 0]), 4, 32)) := ⟨by kernel_rfl⟩
  clear x hb hl hm hr hf
  go_enter Try.func67, Try.ntmps67
  go_wp2
  go_loopw [5, 6, 10] (fun v t s wr => ∃ i : Nat, s = .int .i64 (i : Int) ∧ Aside0 (i ≤ n) ∧ t = .int .i64 (prevTo l i) ∧ Aside0 (wr.ownsRow w.heap.size 95 4 v i ((grps l f i).map (Value.int .i64))) ∧ Aside0 (Below w.heap.size w wr)) (fun _ _ s _ => n - (intOf s).toNat)
  case atStart => exact ⟨0, rfl, ⟨Nat.zero_le _⟩, rfl, ⟨World.ownsRow_nil _ _ _ _⟩, ⟨Below.refl _ _⟩⟩
  case round =>
    obtain ⟨i, rfl, HN, rfl, HO, HB⟩ := hrel
    by_cases hlt : i < n
    · have hcw : Cw wr g h m p A c l f G wr := ⟨⟨(HX.out.below HB.out).rd.blk, (HX.out.below HB.out).rd.view, Below.refl _ _⟩, (HX.out.below HB.out).ptr, (HX.out.below HB.out).map⟩
      have hc := HS.out wr i hlt hcw
      have h12 := HR.out i hlt
      have hg := grps_succ l f i
      unfold grp at hg
      have hp : prevTo l (i + 1) = num l (20 + 12 * (i : Int)) 4 := rfl
      have HPV := Aside0.mk hp
      generalize num l (16 + 12 * (i : Int)) 4 = x0 at *
      generalize num l (20 + 12 * (i : Int)) 4 = x4 at *
      generalize num l (24 + 12 * (i : Int)) 4 = x8 at *
      have d1 : decide (x0 ≤ x4) = true := decide_eq_true h12.1
      have d2 : decide (prevTo l i < x0) = true := decide_eq_true h12.2
      have d0 : decide ((i : Int) < (n : Int)) = true := decide_eq_true (by omega)
      have HG := Aside0.mk hg
      clear hg h12 hcw hp
      generalize prevTo l i = pv at *
      go_wp2_with fail
      refine hc.mono ?_
      rintro e w1 ⟨rfl, hb⟩
      have hO1 := pw_own_below HO.out (below_alloc hb (.cells #[.int .i64 x0, .int .i64 x4, .int .i64 x8, .int .i64 (13 - f)] 95))
      have hB1 := below_then HB.out HB.out.size (below_alloc hb (.cells #[.int .i64 x0, .int .i64 x4, .int .i64 x8, .int .i64 (13 - f)] 95))
      have HO1 := Aside0.mk hO1
      have HB1 := Aside0.mk hB1
      have HL : Aside0 ((i + 1) * 32 ≤ 140737488355328) := ⟨by omega⟩
      clear hc hb hO1 hB1
      go_wp2_with (first | (go_at_call 54; (refine (must_ok 51 _).mono ?_); rintro e w6 ⟨rfl, rfl⟩) | (at_builtin; (refine append_cells_at (w0 := w) w.heap.size (w1.heap.size + 1) rfl (.tmp 30) (.tmp 32) 90 95 (.agg #[.int .i64 0, .int .i64 0, .int .i64 0, .int .i64 0]) 4 32 rfl Try.underlying90 HI.out rfl (by decide) (by decide) u5 i _ [.int .i64 x0, .int .i64 x4, .int .i64 x8, .int .i64 (13 - f)] rfl rfl (by simp) rfl (by simp [Value.oneCell']) HO1.out HB1.out HB1.out.size HL.out ?_); intro v1 w5 ho hb; have HO5 := Aside0.mk ho; have HB5 := Aside0.mk hb; clear ho hb))
      go_roundw
      case rel =>
        refine ⟨i + 1, by go_num, ⟨hlt⟩, by rw [HPV.out], ⟨?_⟩, HB5⟩
        rw [HG.out, List.map_append]
        exact HO5.out
      case measure => simp [intOf]; omega
    · obtain rfl : i = n := by have := HN.out; omega
      have d0 : decide ((i : Int) < (i : Int)) = false := decide_eq_false (by omega)
      go_wp2
      go_ret
      exact ⟨_, rfl, HO.out, HB.out⟩
end Go.Proofs.Ytebmfbfmdbimdaa.F
