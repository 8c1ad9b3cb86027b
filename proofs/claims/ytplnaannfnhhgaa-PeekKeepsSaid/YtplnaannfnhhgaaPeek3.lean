/- Numbers of fixed length, tags and cuts of views, walked. -/
import Derived.Test.YtplnaannfnhhgaaPeek2
namespace Go.Proofs.Ytplnaannfnhhgaa.F
open Go.RowKit Go.Proofs.YtplnaannfnhhgaaW.PrintWords Go.Proofs.YtplnaannfnhhgaaW.PrintLast Go.Proofs.YtplnaannfnhhgaaW.PrintMore
attribute [local go_sem] max2_int min2_int max_two min_two max_three min_three max_four min_four
set_option linter.unusedVariables false
set_option linter.unusedSimpArgs false
theorem str_of {W : World} {B : Option Addr} {d : Nat} {L : List Int} (hC : Kd.C (Kd.int .u8) W B L.length L) : (convert 22 9 (.slice B L.length d)).run Try.prog W = .ok (.string (strOfNums L)) W :=
  string_of_reads (P := Try.prog) Try.underlying22 Try.underlying5 Try.underlying9 (Kd.reads_of_C (enc := Value.int .u8) (d := (0 : Int)) (h1 := fun _ => rfl) hC)
set_option maxRecDepth 100000 in
set_option maxHeartbeats 2000000 in
theorem peek_U8.calls (p : Nat) (A : Option Addr) (c : Nat) (l : List Int) (at_ : Int) (w : World) (h : View w p A c l) (hb : ∀ z ∈ l, 0 ≤ z ∧ z ≤ 255) :
    Calls Try.prog 25 #[.pointer (some ⟨p, 0, none⟩), .int .i64 at_] w fun e w' => e = .returned (.tuple #[.int .i64 (numL (partL l at_ 1) 0), .int .i64 (partE l at_ 1)]) ∧ w' = w := by
  have HV := Aside0.mk h
  have HP := Aside0.mk (fun W (hv : View W p A c l) => peek_number.calls p A c l at_ 1 W hv hb (by decide))
  generalize numL (partL l at_ 1) 0 = x at *
  generalize partE l at_ 1 = E at *
  clear h hb
  go_enter Try.func25, Try.ntmps25
  go_wp2_with (first | (go_at_call 63; (with_reducible refine (HP.out _ HV.out).mono ?_); rintro e w' ⟨rfl, rfl⟩))
  go_ret2
  first | exact ⟨rfl, rfl⟩ | rfl
set_option maxRecDepth 100000 in
set_option maxHeartbeats 2000000 in
theorem peek_U16.calls (p : Nat) (A : Option Addr) (c : Nat) (l : List Int) (at_ : Int) (w : World) (h : View w p A c l) (hb : ∀ z ∈ l, 0 ≤ z ∧ z ≤ 255) :
    Calls Try.prog 26 #[.pointer (some ⟨p, 0, none⟩), .int .i64 at_] w fun e w' => e = .returned (.tuple #[.int .i64 (numL (partL l at_ 2) 0), .int .i64 (partE l at_ 2)]) ∧ w' = w := by
  have HV := Aside0.mk h
  have HP := Aside0.mk (fun W (hv : View W p A c l) => peek_number.calls p A c l at_ 2 W hv hb (by decide))
  generalize numL (partL l at_ 2) 0 = x at *
  generalize partE l at_ 2 = E at *
  clear h hb
  go_enter Try.func26, Try.ntmps26
  go_wp2_with (first | (go_at_call 63; (with_reducible refine (HP.out _ HV.out).mono ?_); rintro e w' ⟨rfl, rfl⟩))
  go_ret2
  first | exact ⟨rfl, rfl⟩ | rfl
set_option maxRecDepth 100000 in
set_option maxHeartbeats 2000000 in
theorem peek_U24.calls (p : Nat) (A : Option Addr) (c : Nat) (l : List Int) (at_ : Int) (w : World) (h : View w p A c l) (hb : ∀ z ∈ l, 0 ≤ z ∧ z ≤ 255) :
    Calls Try.prog 27 #[.pointer (some ⟨p, 0, none⟩), .int .i64 at_] w fun e w' => e = .returned (.tuple #[.int .i64 (numL (partL l at_ 3) 0), .int .i64 (partE l at_ 3)]) ∧ w' = w := by
  have HV := Aside0.mk h
  have HP := Aside0.mk (fun W (hv : View W p A c l) => peek_number.calls p A c l at_ 3 W hv hb (by decide))
  generalize numL (partL l at_ 3) 0 = x at *
  generalize partE l at_ 3 = E at *
  clear h hb
  go_enter Try.func27, Try.ntmps27
  go_wp2_with (first | (go_at_call 63; (with_reducible refine (HP.out _ HV.out).mono ?_); rintro e w' ⟨rfl, rfl⟩))
  go_ret2
  first | exact ⟨rfl, rfl⟩ | rfl
set_option maxRecDepth 100000 in
set_option maxHeartbeats 2000000 in
theorem peek_U32.calls (p : Nat) (A : Option Addr) (c : Nat) (l : List Int) (at_ : Int) (w : World) (h : View w p A c l) (hb : ∀ z ∈ l, 0 ≤ z ∧ z ≤ 255) :
    Calls Try.prog 28 #[.pointer (some ⟨p, 0, none⟩), .int .i64 at_] w fun e w' => e = .returned (.tuple #[.int .i64 (numL (partL l at_ 4) 0), .int .i64 (partE l at_ 4)]) ∧ w' = w := by
  have HV := Aside0.mk h
  have HP := Aside0.mk (fun W (hv : View W p A c l) => peek_number.calls p A c l at_ 4 W hv hb (by decide))
  generalize numL (partL l at_ 4) 0 = x at *
  generalize partE l at_ 4 = E at *
  clear h hb
  go_enter Try.func28, Try.ntmps28
  go_wp2_with (first | (go_at_call 63; (with_reducible refine (HP.out _ HV.out).mono ?_); rintro e w' ⟨rfl, rfl⟩))
  go_ret2
  first | exact ⟨rfl, rfl⟩ | rfl
set_option maxRecDepth 100000 in
set_option maxHeartbeats 2000000 in
theorem peek_I16.calls (p : Nat) (A : Option Addr) (c : Nat) (l : List Int) (at_ : Int) (w : World) (h : View w p A c l) (hb : ∀ z ∈ l, 0 ≤ z ∧ z ≤ 255) :
    Calls Try.prog 29 #[.pointer (some ⟨p, 0, none⟩), .int .i64 at_] w fun e w' => e = .returned (.tuple #[.int .i64 (wrap64 (IntKind.i16.wrap (numL (partL l at_ 2) 0))), .int .i64 (partE l at_ 2)]) ∧ w' = w := by
  have HV := Aside0.mk h
  have HP := Aside0.mk (fun W (hv : View W p A c l) => peek_U16.calls p A c l at_ W hv hb)
  generalize numL (partL l at_ 2) 0 = x at *
  generalize partE l at_ 2 = E at *
  clear h hb
  go_enter Try.func29, Try.ntmps29
  go_wp2_with (first | (go_at_call 26; (with_reducible refine (HP.out _ HV.out).mono ?_); rintro e w' ⟨rfl, rfl⟩))
  go_ret2
  first | exact ⟨rfl, rfl⟩ | rfl
set_option maxRecDepth 100000 in
set_option maxHeartbeats 2000000 in
theorem peek_Tag.calls (p : Nat) (A : Option Addr) (c : Nat) (l : List Int) (at_ : Int) (w : World) (h : View w p A c l) :
    Calls Try.prog 30 #[.pointer (some ⟨p, 0, none⟩), .int .i64 at_] w fun e w' => e = .returned (.tuple #[.string (strOfNums (partL l at_ 4)), .int .i64 (partE l at_ 4)]) ∧ w' = w := by
  have HV := Aside0.mk h
  have HP := Aside0.mk (peek_part.calls p A c l at_ 4)
  generalize partL l at_ 4 = L at *
  generalize partE l at_ 4 = E at *
  clear h
  go_enter Try.func30, Try.ntmps30
  go_wp2_with (first | (go_at_call 64; (with_reducible refine (HP.out _ HV.out).mono ?_); rintro e w' ⟨B, d, rfl, hC, hd, rfl⟩; have hs := str_of (d := d) hC))
  go_ret2
  first | exact ⟨rfl, rfl⟩ | rfl
set_option maxRecDepth 100000 in
set_option maxHeartbeats 2000000 in
theorem peek_Cut.calls (p : Nat) (A : Option Addr) (c : Nat) (l : List Int) (at_ n : Int) (w : World) (h : View w p A c l) (hp : partOk l at_ n) :
    Calls Try.prog 34 #[.pointer (some ⟨p, 0, none⟩), .int .i64 at_, .int .i64 n] w fun e w' => ∃ (q : Nat) (B : Option Addr) (d : Nat), e = .returned (.tuple #[.pointer (some ⟨q, 0, none⟩), .int .i64 0]) ∧ w.heap.size ≤ q ∧ q < w'.heap.size ∧
      w'.heap[q]? = some (.cells #[.slice B (partL l at_ n).length d] 90 (0, 0)) ∧ Kd.C (Kd.int .u8) w B (partL l at_ n).length (partL l at_ n) ∧ (partL l at_ n).length ≤ d ∧ Below w.heap.size w w' := by
  have HV := Aside0.mk h
  have HP := Aside0.mk (peek_part.calls p A c l at_ n)
  have e2 : partE l at_ n = 0 := by unfold partE; rw [if_pos hp]
  rw [e2] at HP
  generalize partL l at_ n = L at *
  clear h e2 hp
  go_enter Try.func34, Try.ntmps34
  go_wp2_with (first | (go_at_call 64; (with_reducible refine (HP.out _ HV.out).mono ?_); rintro e w1 ⟨B, d, rfl, hC, hd, hw⟩; have HC := Aside0.mk hC; have HW := Aside0.mk hw; clear hC hw))
  go_ret2
  have hw := HW.out
  subst hw
  have hbk := heap_alloc_new w1 (.cells #[.slice B L.length d] 90 (0, 0))
  exact ⟨_, B, d, rfl, Nat.le_refl _, blk_lt hbk, hbk, HC.out, hd, (Below.refl _ _).alloc (Nat.le_refl _) _⟩
end Go.Proofs.Ytplnaannfnhhgaa.F
