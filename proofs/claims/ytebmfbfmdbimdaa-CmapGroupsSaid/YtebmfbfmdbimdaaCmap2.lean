/- Package cmap: a row's rank, walked. -/
import Derived.Test.YtebmfbfmdbimdaaCmap1
import Derived.ChangeKeysEq
namespace Go.Proofs.Ytebmfbfmdbimdaa.F
open Go.RowKit Go.Proofs.YtebmfbfmdbimdaaW.PrintWords Go.Proofs.YtebmfbfmdbimdaaW.PrintLast Go.Proofs.YtebmfbfmdbimdaaW.PrintMore Go.Proofs.Ytebmfbfmdbimdaa.rowQ
set_option linter.unusedVariables false
set_option linter.unusedSimpArgs false
def isP (a b : Int) (z : List Int) : Bool := a == z.getD 0 0 && b == z.getD 1 0
/-- The first place of a pair, or -1. -/
def idxP (a b : Int) (L : List (List Int)) : Int := match L.findIdx? (isP a b) with | some i => i | none => -1
theorem pair_eq (a b z0 z1 : Int) (W : World) : (binOp BinOp.eql 22 (.agg #[.int .i64 a, .int .i64 b]) (.agg #[.int .i64 z0, .int .i64 z1])).run Try.prog W = .ok (.bool (a == z0 && b == z1)) W := by
  obtain ⟨i, hi⟩ : ∃ i, Try.prog.info? 3 = some i := Option.isSome_iff_exists.1 (by kernel_rfl)
  have k3 : Try.prog.cellsOf 3 = 1 := by kernel_rfl
  have p0 : ∀ (x y : Int) (V : World), (part 3 #[.int .i64 x, .int .i64 y] 0).run Try.prog V = .ok (.int .i64 x) V := fun x y V => by kernel_rfl
  have p1 : ∀ (x y : Int) (V : World), (part 3 #[.int .i64 x, .int .i64 y] 1).run Try.prog V = .ok (.int .i64 y) V := fun x y V => by kernel_rfl
  rw [run_eql_struct, run_equalIn_array (n := 2) (e := 3) W 9999 _ _ Try.underlying22 hi, k3]
  rw [show List.range 2 = [0, 1] from rfl]
  have q : ∀ (x y : Int) (V : World), (Op.equalIn 9999 3 (.int .i64 x) (.int .i64 y)).run Try.prog V = .ok (x == y) V := fun x y V => run_equalIn_int V 9998 3 .i64 .i64 x y Try.underlying3
  simp only [Op.eqItems, Sem.run_bind, Nat.zero_mul, Nat.one_mul, p0, p1, q, Result.andThen_ok]
  cases a == z0 <;> cases hb : b == z1 <;> simp [p0, p1, q, hb]
set_option maxRecDepth 100000 in
set_option maxHeartbeats 2000000 in
theorem index_pair (A : Option Addr) (c : Nat) (L : List (List Int)) (a b : Int) (w : World) (hR : RowQ 2 w A L) (hL : L.length < 140737488355328) :
    Calls Try.prog 82 #[.slice A L.length c, .agg #[.int .i64 a, .int .i64 b]] w fun e w' => e = .returned (.int .i64 (idxP a b L)) ∧ Below w.heap.size w w' := by
  have HR := Aside0.mk hR
  clear hR
  go_enter Try.func82, Try.ntmps82
  go_wp2
  have hbk := blk_new w (.cells #[.int .i64 a, .int .i64 b] 22)
  have hbw := below_alloc (Below.refl w.heap.size w) (.cells #[.int .i64 a, .int .i64 b] 22)
  obtain ⟨g, hg⟩ : ∃ g, g = w.heap.size := ⟨_, rfl⟩
  rw [← hg] at hbk ⊢
  generalize w.alloc _ = w1 at *
  have HK := Aside0.mk hbk
  have HB := Aside0.mk hbw
  clear hbk hbw hg
  go_loopw [8] (fun s wr => ∃ (n q : Nat), s = .int .i64 (n : Int) ∧ Aside0 (n ≤ L.length) ∧ wr = w1.drewN q ∧ Aside0 (∀ j, j < n → isP a b (L.getD j []) = false)) (fun s _ => L.length - (intOf s).toNat)
  case atStart => exact ⟨0, 0, rfl, ⟨Nat.zero_le _⟩, rfl, ⟨fun j hj => absurd hj (Nat.not_lt_zero _)⟩⟩
  case round =>
    obtain ⟨n, q, rfl, HN, rfl, HP⟩ := hrel
    have c0 := (blk_cell HK.out 0).trans rfl
    have c1 := (blk_cell HK.out 1).trans rfl
    by_cases hlt : n < L.length
    · obtain ⟨x, rfl, k0, hcell⟩ := (HR.out.below HB.out).cell0 (by decide) hlt
      have k1 := hcell 1 (by decide) (by decide)
      clear hcell
      have hz : isP a b (L.getD n []) = (a == (L.getD n []).getD 0 0 && b == (L.getD n []).getD 1 0) := rfl
      generalize (L.getD n []).getD 0 0 = z0 at *
      generalize (L.getD n []).getD 1 0 = z1 at *
      have HZ := Aside0.mk hz
      clear hz
      have p0 : (0 : Int) ≤ n := by omega
      have p1 : (n : Int) < L.length := by omega
      have hd : decide ((n : Int) < (L.length : Int)) = true := decide_eq_true p1
      have pq := pair_eq a b z0 z1
      cases hq : (a == z0 && b == z1) <;> rw [hq] at pq HZ
      · clear hq
        go_wp2
        go_quiet (fail)
        go_wp2
        go_roundw
        case rel =>
          refine ⟨n + 1, q + nq, by go_num, ⟨hlt⟩, (by first | rfl | rw [World.drewN_drewN]), ⟨fun j hj => ?_⟩⟩
          by_cases hjn : j = n
          · rw [hjn]; exact HZ.out
          · exact HP.out j (by omega)
        case measure => simp [intOf]; omega
      · clear hq
        go_wp2
        go_quiet (fail)
        go_wp2
        go_ret
        refine ⟨?_, pw_below_drewN (pw_below_drewN HB.out _) _⟩
        have hf : L.findIdx? (isP a b) = some n := by
          rw [List.findIdx?_eq_some_iff_getElem]
          refine ⟨hlt, ?_, fun j hj => ?_⟩
          · have := HZ.out
            rwa [List.getD_eq_getElem?_getD, List.getElem?_eq_getElem hlt] at this
          · have := HP.out j hj
            rw [List.getD_eq_getElem?_getD, List.getElem?_eq_getElem (by omega)] at this
            simpa using this
        unfold idxP
        rw [hf]
        rfl
    · obtain rfl : n = L.length := by have := HN.out; omega
      have hd : decide (((L.length : Nat) : Int) < (L.length : Int)) = false := decide_eq_false (by omega)
      go_wp2
      go_ret
      refine ⟨?_, pw_below_drewN HB.out _⟩
      have hf : L.findIdx? (isP a b) = none := by
        rw [List.findIdx?_eq_none_iff]
        intro z hz
        obtain ⟨j, hj, rfl⟩ := List.getElem_of_mem hz
        have := HP.out j hj
        rwa [List.getD_eq_getElem?_getD, List.getElem?_eq_getElem hj] at this
      unfold idxP
      rw [hf]
      rfl
def rankL : List (List Int) := [[3, 10], [0, 6], [0, 4], [3, 1], [0, 3], [0, 2], [0, 1], [0, 0], [1, 0]]
theorem rank_row {w : World} {g : Nat} (hb : w.heap[g]? = some (.cells #[.int .i64 3, .int .i64 10, .int .i64 0, .int .i64 6, .int .i64 0, .int .i64 4, .int .i64 3, .int .i64 1, .int .i64 0, .int .i64 3, .int .i64 0, .int .i64 2, .int .i64 0, .int .i64 1, .int .i64 0, .int .i64 0, .int .i64 1, .int .i64 0] 22 (0, 0))) : RowQ 2 w (some ⟨g, 0, none⟩) rankL := by
  intro i hi
  refine ⟨_, rfl, fun j hj => ?_⟩
  have hi : i < 9 := hi
  have e : (⟨g, 0, none⟩ : Addr).add (i * 2 + j) = ⟨g, i * 2 + j, none⟩ := by
    unfold Addr.add
    split
    · rename_i h0; rw [h0]
    · simp
  rw [e, blk_cell hb]
  obtain rfl | rfl | rfl | rfl | rfl | rfl | rfl | rfl | rfl : i = 0 ∨ i = 1 ∨ i = 2 ∨ i = 3 ∨ i = 4 ∨ i = 5 ∨ i = 6 ∨ i = 7 ∨ i = 8 := by omega
  all_goals
    obtain rfl | rfl : j = 0 ∨ j = 1 := by omega
    all_goals rfl
set_option maxRecDepth 100000 in
set_option maxHeartbeats 2000000 in
theorem rank_calls (a b : Int) (w : World) :
    Calls Try.prog 63 #[.int .i64 a, .int .i64 b] w fun e w' => e = .returned (.int .i64 (idxP a b rankL)) ∧ Below w.heap.size w w' := by
  go_enter Try.func63, Try.ntmps63
  go_wp2_with (go_at_call 82; (refine (index_pair (some ⟨w.heap.size, 0, none⟩) 9 rankL a b _ (rank_row (blk_new _ _)) (by decide)).mono ?_); rintro e w1 ⟨rfl, hb⟩; have HB := Aside0.mk hb; clear hb)
  go_ret
  exact ⟨rfl, below_then (below_alloc (Below.refl _ _) _) (below_alloc (Below.refl _ _) _).size HB.out⟩
end Go.Proofs.Ytebmfbfmdbimdaa.F
