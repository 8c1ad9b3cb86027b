/- Views of fixed numbers and cuts, walked; package cmap's own readers: a number that must be there. -/
import Derived.Test.YtebmfbfmdbimdaaZPk
import Derived.Handy
import Derived.WalkLawsBesides
import Derived.BigRegion
namespace Go.Proofs.Ytebmfbfmdbimdaa.F
open Go.RowKit Go.Proofs.YtebmfbfmdbimdaaW.PrintWords Go.Proofs.YtebmfbfmdbimdaaW.PrintLast Go.Proofs.YtebmfbfmdbimdaaW.PrintMore
set_option linter.unusedVariables false
set_option linter.unusedSimpArgs false
theorem numL_bound : ∀ {L : List Int} {x : Int}, (∀ z ∈ L, 0 ≤ z ∧ z ≤ 255) → 0 ≤ x → 0 ≤ numL L x ∧ numL L x < (x + 1) * 256 ^ L.length
  | [], x, _, hx => ⟨hx, by simp [numL]; omega⟩
  | c :: L, x, h, hx => by
    have hc := h c List.mem_cons_self
    obtain ⟨h1, h2⟩ := numL_bound (L := L) (x := x * 256 + c) (fun z hz => h z (List.mem_cons_of_mem _ hz)) (by omega)
    refine ⟨h1, ?_⟩
    rw [numL, List.length_cons, Int.pow_succ]
    have hp : (0 : Int) ≤ 256 ^ L.length := Int.pow_nonneg (by decide)
    have : (x * 256 + c + 1) * 256 ^ L.length ≤ ((x + 1) * 256) * 256 ^ L.length := Int.mul_le_mul_of_nonneg_right (by omega) hp
    have e : (x + 1) * (256 ^ L.length * 256) = ((x + 1) * 256) * 256 ^ L.length := by
      rw [Int.mul_assoc, Int.mul_comm 256]
    omega
/-- The number of n bytes at a place. -/
def num (l : List Int) (at_ n : Int) : Int := numL (partL l at_ n) 0
theorem num_bound {l : List Int} {at_ n : Int} (hb : ∀ z ∈ l, 0 ≤ z ∧ z ≤ 255) (hn : n ≤ 4) : 0 ≤ num l at_ n ∧ num l at_ n < 4294967296 := by
  have h := numL_bound (L := partL l at_ n) (x := 0) (fun z hz => hb z (part_mem hz)) (by decide)
  have h2 := part_le (l := l) (at_ := at_) hn
  refine ⟨h.1, ?_⟩
  have h3 : ∀ k : Nat, k ≤ 4 → (256 : Int) ^ k ≤ 4294967296 := by
    intro k hk
    obtain rfl | rfl | rfl | rfl | rfl : k = 0 ∨ k = 1 ∨ k = 2 ∨ k = 3 ∨ k = 4 := by omega
    all_goals decide
  have h4 := h3 _ h2
  have := h.2
  unfold num
  omega
set_option maxRecDepth 100000 in
set_option maxHeartbeats 2000000 in
theorem peek_U8.calls (p : Nat) (A : Option Addr) (c : Nat) (l : List Int) (at_ : Int) (w : World) (h : View w p A c l) (hb : ∀ z ∈ l, 0 ≤ z ∧ z ≤ 255) :
    Calls Try.prog 87 #[.pointer (some ⟨p, 0, none⟩), .int .i64 at_] w fun e w' => e = .returned (.tuple #[.int .i64 (num l at_ 1), .int .i64 (partE l at_ 1)]) ∧ w' = w := by
  have HV := Aside0.mk h
  have HP := Aside0.mk (fun W (hv : View W p A c l) => peek_number.calls p A c l at_ 1 W hv hb (by decide))
  change Aside0 (∀ W, View W p A c l → Calls Try.prog 88 _ W fun e w' => e = .returned (.tuple #[.int .i64 (num l at_ 1), _]) ∧ w' = W) at HP
  generalize num l at_ 1 = x at *
  generalize partE l at_ 1 = E at *
  clear h hb
  go_enter Try.func87, Try.ntmps87
  go_wp2_with (first | (go_at_call 88; (with_reducible refine (HP.out _ HV.out).mono ?_); rintro e w' ⟨rfl, rfl⟩))
  go_ret2
  first | exact ⟨rfl, rfl⟩ | rfl
set_option maxRecDepth 100000 in
set_option maxHeartbeats 2000000 in
theorem peek_U16.calls (p : Nat) (A : Option Addr) (c : Nat) (l : List Int) (at_ : Int) (w : World) (h : View w p A c l) (hb : ∀ z ∈ l, 0 ≤ z ∧ z ≤ 255) :
    Calls Try.prog 80 #[.pointer (some ⟨p, 0, none⟩), .int .i64 at_] w fun e w' => e = .returned (.tuple #[.int .i64 (num l at_ 2), .int .i64 (partE l at_ 2)]) ∧ w' = w := by
  have HV := Aside0.mk h
  have HP := Aside0.mk (fun W (hv : View W p A c l) => peek_number.calls p A c l at_ 2 W hv hb (by decide))
  change Aside0 (∀ W, View W p A c l → Calls Try.prog 88 _ W fun e w' => e = .returned (.tuple #[.int .i64 (num l at_ 2), _]) ∧ w' = W) at HP
  generalize num l at_ 2 = x at *
  generalize partE l at_ 2 = E at *
  clear h hb
  go_enter Try.func80, Try.ntmps80
  go_wp2_with (first | (go_at_call 88; (with_reducible refine (HP.out _ HV.out).mono ?_); rintro e w' ⟨rfl, rfl⟩))
  go_ret2
  first | exact ⟨rfl, rfl⟩ | rfl
set_option maxRecDepth 100000 in
set_option maxHeartbeats 2000000 in
theorem peek_U24.calls (p : Nat) (A : Option Addr) (c : Nat) (l : List Int) (at_ : Int) (w : World) (h : View w p A c l) (hb : ∀ z ∈ l, 0 ≤ z ∧ z ≤ 255) :
    Calls Try.prog 86 #[.pointer (some ⟨p, 0, none⟩), .int .i64 at_] w fun e w' => e = .returned (.tuple #[.int .i64 (num l at_ 3), .int .i64 (partE l at_ 3)]) ∧ w' = w := by
  have HV := Aside0.mk h
  have HP := Aside0.mk (fun W (hv : View W p A c l) => peek_number.calls p A c l at_ 3 W hv hb (by decide))
  change Aside0 (∀ W, View W p A c l → Calls Try.prog 88 _ W fun e w' => e = .returned (.tuple #[.int .i64 (num l at_ 3), _]) ∧ w' = W) at HP
  generalize num l at_ 3 = x at *
  generalize partE l at_ 3 = E at *
  clear h hb
  go_enter Try.func86, Try.ntmps86
  go_wp2_with (first | (go_at_call 88; (with_reducible refine (HP.out _ HV.out).mono ?_); rintro e w' ⟨rfl, rfl⟩))
  go_ret2
  first | exact ⟨rfl, rfl⟩ | rfl
set_option maxRecDepth 100000 in
set_option maxHeartbeats 2000000 in
theorem peek_U32.calls (p : Nat) (A : Option Addr) (c : Nat) (l : List Int) (at_ : Int) (w : World) (h : View w p A c l) (hb : ∀ z ∈ l, 0 ≤ z ∧ z ≤ 255) :
    Calls Try.prog 81 #[.pointer (some ⟨p, 0, none⟩), .int .i64 at_] w fun e w' => e = .returned (.tuple #[.int .i64 (num l at_ 4), .int .i64 (partE l at_ 4)]) ∧ w' = w := by
  have HV := Aside0.mk h
  have HP := Aside0.mk (fun W (hv : View W p A c l) => peek_number.calls p A c l at_ 4 W hv hb (by decide))
  change Aside0 (∀ W, View W p A c l → Calls Try.prog 88 _ W fun e w' => e = .returned (.tuple #[.int .i64 (num l at_ 4), _]) ∧ w' = W) at HP
  generalize num l at_ 4 = x at *
  generalize partE l at_ 4 = E at *
  clear h hb
  go_enter Try.func81, Try.ntmps81
  go_wp2_with (first | (go_at_call 88; (with_reducible refine (HP.out _ HV.out).mono ?_); rintro e w' ⟨rfl, rfl⟩))
  go_ret2
  first | exact ⟨rfl, rfl⟩ | rfl
/-- How a thrown Errno reads. -/
abbrev PK (c : Int) : Ending := .panicked [{ v := .iface 26 (.int .i64 c), recovered := false }]
set_option maxRecDepth 100000 in
set_option maxHeartbeats 2000000 in
theorem must_ok (c : Int) (w : World) : Calls Try.prog 54 #[.bool true, .int .i64 c] w fun e w' => e = .returned (.tuple #[]) ∧ w' = w := by
  go_enter Try.func54, Try.ntmps54
  go_wp2
  go_returns
  exact ⟨rfl, rfl⟩
set_option maxRecDepth 100000 in
set_option maxHeartbeats 2000000 in
theorem must_no (c : Int) (w : World) : Calls Try.prog 54 #[.bool false, .int .i64 c] w fun e w' => e = PK c ∧ w' = w := by
  go_enter Try.func54, Try.ntmps54
  go_wp2
  exact ⟨rfl, rfl, rfl⟩
set_option maxRecDepth 100000 in
set_option maxHeartbeats 2000000 in
theorem got_ok (n : Int) (w : World) : Calls Try.prog 79 #[.int .i64 n, .int .i64 0] w fun e w' => e = .returned (.int .i64 n) ∧ w' = w := by
  go_enter Try.func79, Try.ntmps79
  go_wp2_with (go_at_call 54; (refine (must_ok 51 _).mono ?_); rintro e w1 ⟨rfl, rfl⟩)
  go_ret
  first | exact ⟨rfl, rfl⟩ | rfl
set_option maxRecDepth 100000 in
set_option maxHeartbeats 2000000 in
theorem got_no (n : Int) (w : World) : Calls Try.prog 79 #[.int .i64 n, .int .i64 21] w fun e w' => e = PK 51 ∧ w' = w := by
  go_enter Try.func79, Try.ntmps79
  go_wp2_with (go_at_call 54; (refine (must_no 51 _).mono ?_); rintro e w1 ⟨rfl, rfl⟩)
  exact ⟨rfl, rfl, rfl⟩
set_option maxRecDepth 100000 in
set_option maxHeartbeats 2000000 in
theorem cu8_ok (p : Nat) (A : Option Addr) (c : Nat) (l : List Int) (at_ : Int) (w : World) (h : View w p A c l) (hb : ∀ z ∈ l, 0 ≤ z ∧ z ≤ 255) (hp : partOk l at_ 1) :
    Calls Try.prog 77 #[.agg #[.pointer (some ⟨p, 0, none⟩)], .int .i64 at_] w fun e w' => e = .returned (.int .i64 (num l at_ 1)) ∧ Below w.heap.size w w' := by
  have HP := Aside0.mk (fun W (hv : View W p A c l) => peek_U8.calls p A c l at_ W hv hb)
  have HV := Aside0.mk h
  have e2 : partE l at_ 1 = 0 := by unfold partE; rw [if_pos hp]
  rw [e2] at HP
  generalize num l at_ 1 = x at *
  clear h hb hp e2
  go_enter Try.func77, Try.ntmps77
  go_wp2_with (first | (go_at_call 87; (refine (HP.out _ (HV.out.below (below_alloc (Below.refl _ _) _))).mono ?_); rintro e w1 ⟨rfl, rfl⟩) | (go_at_call 79; (refine (got_ok x _).mono ?_); rintro e w1 ⟨rfl, rfl⟩))
  go_ret
  exact ⟨rfl, below_alloc (Below.refl _ _) _⟩
set_option maxRecDepth 100000 in
set_option maxHeartbeats 2000000 in
theorem cu8_no (p : Nat) (A : Option Addr) (c : Nat) (l : List Int) (at_ : Int) (w : World) (h : View w p A c l) (hb : ∀ z ∈ l, 0 ≤ z ∧ z ≤ 255) (hp : ¬ partOk l at_ 1) :
    Calls Try.prog 77 #[.agg #[.pointer (some ⟨p, 0, none⟩)], .int .i64 at_] w fun e w' => e = PK 51 ∧ Below w.heap.size w w' := by
  have HP := Aside0.mk (fun W (hv : View W p A c l) => peek_U8.calls p A c l at_ W hv hb)
  have HV := Aside0.mk h
  have e2 : partE l at_ 1 = 21 := by unfold partE; rw [if_neg hp]
  rw [e2] at HP
  generalize num l at_ 1 = x at *
  clear h hb hp e2
  go_enter Try.func77, Try.ntmps77
  go_wp2_with (first | (go_at_call 87; (refine (HP.out _ (HV.out.below (below_alloc (Below.refl _ _) _))).mono ?_); rintro e w1 ⟨rfl, rfl⟩) | (go_at_call 79; (refine (got_no x _).mono ?_); rintro e w1 ⟨rfl, rfl⟩))
  exact ⟨rfl, rfl, below_alloc (Below.refl _ _) _⟩
set_option maxRecDepth 100000 in
set_option maxHeartbeats 2000000 in
theorem cu16_ok (p : Nat) (A : Option Addr) (c : Nat) (l : List Int) (at_ : Int) (w : World) (h : View w p A c l) (hb : ∀ z ∈ l, 0 ≤ z ∧ z ≤ 255) (hp : partOk l at_ 2) :
    Calls Try.prog 61 #[.agg #[.pointer (some ⟨p, 0, none⟩)], .int .i64 at_] w fun e w' => e = .returned (.int .i64 (num l at_ 2)) ∧ Below w.heap.size w w' := by
  have HP := Aside0.mk (fun W (hv : View W p A c l) => peek_U16.calls p A c l at_ W hv hb)
  have HV := Aside0.mk h
  have e2 : partE l at_ 2 = 0 := by unfold partE; rw [if_pos hp]
  rw [e2] at HP
  generalize num l at_ 2 = x at *
  clear h hb hp e2
  go_enter Try.func61, Try.ntmps61
  go_wp2_with (first | (go_at_call 80; (refine (HP.out _ (HV.out.below (below_alloc (Below.refl _ _) _))).mono ?_); rintro e w1 ⟨rfl, rfl⟩) | (go_at_call 79; (refine (got_ok x _).mono ?_); rintro e w1 ⟨rfl, rfl⟩))
  go_ret
  exact ⟨rfl, below_alloc (Below.refl _ _) _⟩
set_option maxRecDepth 100000 in
set_option maxHeartbeats 2000000 in
theorem cu16_no (p : Nat) (A : Option Addr) (c : Nat) (l : List Int) (at_ : Int) (w : World) (h : View w p A c l) (hb : ∀ z ∈ l, 0 ≤ z ∧ z ≤ 255) (hp : ¬ partOk l at_ 2) :
    Calls Try.prog 61 #[.agg #[.pointer (some ⟨p, 0, none⟩)], .int .i64 at_] w fun e w' => e = PK 51 ∧ Below w.heap.size w w' := by
  have HP := Aside0.mk (fun W (hv : View W p A c l) => peek_U16.calls p A c l at_ W hv hb)
  have HV := Aside0.mk h
  have e2 : partE l at_ 2 = 21 := by unfold partE; rw [if_neg hp]
  rw [e2] at HP
  generalize num l at_ 2 = x at *
  clear h hb hp e2
  go_enter Try.func61, Try.ntmps61
  go_wp2_with (first | (go_at_call 80; (refine (HP.out _ (HV.out.below (below_alloc (Below.refl _ _) _))).mono ?_); rintro e w1 ⟨rfl, rfl⟩) | (go_at_call 79; (refine (got_no x _).mono ?_); rintro e w1 ⟨rfl, rfl⟩))
  exact ⟨rfl, rfl, below_alloc (Below.refl _ _) _⟩
set_option maxRecDepth 100000 in
set_option maxHeartbeats 2000000 in
theorem cu24_ok (p : Nat) (A : Option Addr) (c : Nat) (l : List Int) (at_ : Int) (w : World) (h : View w p A c l) (hb : ∀ z ∈ l, 0 ≤ z ∧ z ≤ 255) (hp : partOk l at_ 3) :
    Calls Try.prog 75 #[.agg #[.pointer (some ⟨p, 0, none⟩)], .int .i64 at_] w fun e w' => e = .returned (.int .i64 (num l at_ 3)) ∧ Below w.heap.size w w' := by
  have HP := Aside0.mk (fun W (hv : View W p A c l) => peek_U24.calls p A c l at_ W hv hb)
  have HV := Aside0.mk h
  have e2 : partE l at_ 3 = 0 := by unfold partE; rw [if_pos hp]
  rw [e2] at HP
  generalize num l at_ 3 = x at *
  clear h hb hp e2
  go_enter Try.func75, Try.ntmps75
  go_wp2_with (first | (go_at_call 86; (refine (HP.out _ (HV.out.below (below_alloc (Below.refl _ _) _))).mono ?_); rintro e w1 ⟨rfl, rfl⟩) | (go_at_call 79; (refine (got_ok x _).mono ?_); rintro e w1 ⟨rfl, rfl⟩))
  go_ret
  exact ⟨rfl, below_alloc (Below.refl _ _) _⟩
set_option maxRecDepth 100000 in
set_option maxHeartbeats 2000000 in
theorem cu24_no (p : Nat) (A : Option Addr) (c : Nat) (l : List Int) (at_ : Int) (w : World) (h : View w p A c l) (hb : ∀ z ∈ l, 0 ≤ z ∧ z ≤ 255) (hp : ¬ partOk l at_ 3) :
    Calls Try.prog 75 #[.agg #[.pointer (some ⟨p, 0, none⟩)], .int .i64 at_] w fun e w' => e = PK 51 ∧ Below w.heap.size w w' := by
  have HP := Aside0.mk (fun W (hv : View W p A c l) => peek_U24.calls p A c l at_ W hv hb)
  have HV := Aside0.mk h
  have e2 : partE l at_ 3 = 21 := by unfold partE; rw [if_neg hp]
  rw [e2] at HP
  generalize num l at_ 3 = x at *
  clear h hb hp e2
  go_enter Try.func75, Try.ntmps75
  go_wp2_with (first | (go_at_call 86; (refine (HP.out _ (HV.out.below (below_alloc (Below.refl _ _) _))).mono ?_); rintro e w1 ⟨rfl, rfl⟩) | (go_at_call 79; (refine (got_no x _).mono ?_); rintro e w1 ⟨rfl, rfl⟩))
  exact ⟨rfl, rfl, below_alloc (Below.refl _ _) _⟩
set_option maxRecDepth 100000 in
set_option maxHeartbeats 2000000 in
theorem cu32_ok (p : Nat) (A : Option Addr) (c : Nat) (l : List Int) (at_ : Int) (w : World) (h : View w p A c l) (hb : ∀ z ∈ l, 0 ≤ z ∧ z ≤ 255) (hp : partOk l at_ 4) :
    Calls Try.prog 62 #[.agg #[.pointer (some ⟨p, 0, none⟩)], .int .i64 at_] w fun e w' => e = .returned (.int .i64 (num l at_ 4)) ∧ Below w.heap.size w w' := by
  have HP := Aside0.mk (fun W (hv : View W p A c l) => peek_U32.calls p A c l at_ W hv hb)
  have HV := Aside0.mk h
  have e2 : partE l at_ 4 = 0 := by unfold partE; rw [if_pos hp]
  rw [e2] at HP
  generalize num l at_ 4 = x at *
  clear h hb hp e2
  go_enter Try.func62, Try.ntmps62
  go_wp2_with (first | (go_at_call 81; (refine (HP.out _ (HV.out.below (below_alloc (Below.refl _ _) _))).mono ?_); rintro e w1 ⟨rfl, rfl⟩) | (go_at_call 79; (refine (got_ok x _).mono ?_); rintro e w1 ⟨rfl, rfl⟩))
  go_ret
  exact ⟨rfl, below_alloc (Below.refl _ _) _⟩
set_option maxRecDepth 100000 in
set_option maxHeartbeats 2000000 in
theorem cu32_no (p : Nat) (A : Option Addr) (c : Nat) (l : List Int) (at_ : Int) (w : World) (h : View w p A c l) (hb : ∀ z ∈ l, 0 ≤ z ∧ z ≤ 255) (hp : ¬ partOk l at_ 4) :
    Calls Try.prog 62 #[.agg #[.pointer (some ⟨p, 0, none⟩)], .int .i64 at_] w fun e w' => e = PK 51 ∧ Below w.heap.size w w' := by
  have HP := Aside0.mk (fun W (hv : View W p A c l) => peek_U32.calls p A c l at_ W hv hb)
  have HV := Aside0.mk h
  have e2 : partE l at_ 4 = 21 := by unfold partE; rw [if_neg hp]
  rw [e2] at HP
  generalize num l at_ 4 = x at *
  clear h hb hp e2
  go_enter Try.func62, Try.ntmps62
  go_wp2_with (first | (go_at_call 81; (refine (HP.out _ (HV.out.below (below_alloc (Below.refl _ _) _))).mono ?_); rintro e w1 ⟨rfl, rfl⟩) | (go_at_call 79; (refine (got_no x _).mono ?_); rintro e w1 ⟨rfl, rfl⟩))
  exact ⟨rfl, rfl, below_alloc (Below.refl _ _) _⟩
end Go.Proofs.Ytebmfbfmdbimdaa.F
