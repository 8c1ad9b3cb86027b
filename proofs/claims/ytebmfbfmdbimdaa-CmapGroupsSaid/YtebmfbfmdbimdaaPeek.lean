/- The views of package peek, walked: made, asked, cut. -/
import Derived.Test.YtebmfbfmdbimdaaClone
namespace Go.Proofs.Ytebmfbfmdbimdaa.F
open Go.RowKit Go.Proofs.YtebmfbfmdbimdaaW.PrintWords Go.Proofs.YtebmfbfmdbimdaaW.PrintLast Go.Proofs.YtebmfbfmdbimdaaW.PrintMore
attribute [local go_sem] max2_int min2_int max_two min_two max_three min_three max_four min_four
set_option linter.unusedVariables false
set_option linter.unusedSimpArgs false
/-- Block p holds a view of the bytes l. -/
structure View (W : World) (p : Nat) (A : Option Addr) (c : Nat) (l : List Int) : Prop where
  blk : W.heap[p]? = some (.cells #[.slice A l.length c] 111 (0, 0))
  row : Kd.C (Kd.int .u8) W A l.length l
  cap : l.length ≤ c
theorem View.cell {W : World} {p : Nat} {A : Option Addr} {c : Nat} {l : List Int} (h : View W p A c l) : W.cell? ⟨p, 0, none⟩ = some (.slice A l.length c) := (blk_cell h.blk 0).trans rfl
theorem View.below {W W' : World} {p : Nat} {A : Option Addr} {c : Nat} {l : List Int} (h : View W p A c l) (hb : Below W.heap.size W W') : View W' p A c l := ⟨blk_below h.blk hb, Kd.C_below h.row hb, h.cap⟩
theorem clone_f (l : List Int) (hl : l.length < 140737488355328) : slices_Clone_byte_byte.f l = some l := by
  unfold slices_Clone_byte_byte.f
  rw [Option.bind_some, if_pos (by simpa using hl)]
  rfl
set_option maxRecDepth 100000 in
set_option maxHeartbeats 2000000 in
theorem peek_New.calls (A0 : Option Addr) (c0 : Nat) (l : List Int) (w : World) (hr0 : Kd.C (Kd.int .u8) w A0 l.length l) (hc0 : l.length ≤ c0) (hl : l.length < 140737488355328) :
    Calls Try.prog 40 #[.slice A0 l.length c0] w fun e w' => ∃ (p : Nat) (A : Option Addr) (c : Nat), e = .returned (.pointer (some ⟨p, 0, none⟩)) ∧ w.heap.size ≤ p ∧ p < w'.heap.size ∧ w'.heap[p]? = some (.cells #[.slice A l.length c] 111 (0, 0)) ∧
      Kd.R (Kd.int .u8) 5 w' w.heap.size (fun k => k ≠ p) (.slice A l.length c) l ∧ Below w.heap.size w w' := by
  have HC := Aside0.mk (clone_f l hl)
  have HR := Aside0.mk hr0
  have HK := Aside0.mk hc0
  clear hr0 hc0 hl
  go_enter Try.func40, Try.ntmps40
  go_wp2_with (first | (go_at_call 52; (with_reducible refine (slices_Clone_byte_byte.calls A0 c0 l l _ HR.out HK.out HC.out).mono ?_); rintro e w1 ⟨v, rfl, ho, hb⟩; obtain ⟨A, c, ev⟩ := Kd.R_slice ho; subst ev; have HO := Aside0.mk ho; have HB := Aside0.mk hb; clear ho hb))
  go_ret
  have hlt : w.heap.size ≤ w1.heap.size := HB.out.size
  have hbk := heap_alloc_new w1 (.cells #[.slice A l.length c] 111 (0, 0))
  refine ⟨w1.heap.size, A, c, rfl, hlt, blk_lt hbk, hbk, ?_, HB.out.alloc hlt _⟩
  exact Kd.R_mono (Kd.R_alloc (Kd.R_bound HO.out) _) (fun k hk => by have := hk.2.2.1; omega)
set_option maxRecDepth 100000 in
theorem peek_Len.calls (p : Nat) (A : Option Addr) (c : Nat) (l : List Int) (w : World) (h : View w p A c l) :
    Calls Try.prog 65 #[.pointer (some ⟨p, 0, none⟩)] w fun e w' => e = .returned (.int .i64 (l.length : Int)) ∧ w' = w := by
  have hc := h.cell
  clear h
  go_enter Try.func65, Try.ntmps65
  go_wp2
  go_ret
  exact ⟨rfl, rfl⟩
set_option maxRecDepth 100000 in
set_option maxHeartbeats 2000000 in
theorem peek_Bytes.calls (p : Nat) (A : Option Addr) (c : Nat) (l : List Int) (w : World) (h : View w p A c l) (hl : l.length < 140737488355328) :
    Calls Try.prog 66 #[.pointer (some ⟨p, 0, none⟩)] w fun e w' => ∃ v, e = .returned v ∧ Kd.R (Kd.int .u8) 5 w' w.heap.size (fun _ => True) v l ∧ Below w.heap.size w w' := by
  have hc := h.cell
  have HV := Aside0.mk h
  have HC := Aside0.mk (clone_f l hl)
  clear h hl
  go_enter Try.func66, Try.ntmps66
  go_wp2_with (first | (go_at_call 52; (with_reducible refine (slices_Clone_byte_byte.calls A c l l _ HV.out.row HV.out.cap HC.out).mono ?_); rintro e w1 ⟨v, rfl, ho, hb⟩; have HO := Aside0.mk ho; have HB := Aside0.mk hb; clear ho hb))
  go_ret
  exact ⟨_, rfl, HO.out, HB.out⟩
/-- n bytes from at on, or the refusal. -/
def partOk (l : List Int) (at_ n : Int) : Prop := 0 ≤ at_ ∧ 0 ≤ n ∧ n ≤ l.length ∧ at_ ≤ l.length - n
instance (l : List Int) (at_ n : Int) : Decidable (partOk l at_ n) := by unfold partOk; infer_instance
def partL (l : List Int) (at_ n : Int) : List Int := if partOk l at_ n then (l.take (at_ + n).toNat).drop at_.toNat else []
def partE (l : List Int) (at_ n : Int) : Int := if partOk l at_ n then 0 else 21
theorem partL_length {l : List Int} {at_ n : Int} (h : partOk l at_ n) : (partL l at_ n).length = n.toNat := by
  unfold partL
  rw [if_pos h, List.length_drop, List.length_take]
  unfold partOk at h
  omega
set_option maxRecDepth 100000 in
set_option maxHeartbeats 4000000 in
theorem peek_part.calls (p : Nat) (A : Option Addr) (c : Nat) (l : List Int) (at_ n : Int) (w : World) (h : View w p A c l) :
    Calls Try.prog 83 #[.pointer (some ⟨p, 0, none⟩), .int .i64 at_, .int .i64 n] w fun e w' => ∃ (B : Option Addr) (d : Nat), e = .returned (.tuple #[.slice B (partL l at_ n).length d, .int .i64 (partE l at_ n)]) ∧
      Kd.C (Kd.int .u8) w B (partL l at_ n).length (partL l at_ n) ∧ (partL l at_ n).length ≤ d ∧ w' = w := by
  have hc := h.cell
  have HV := Aside0.mk h
  have hm : l.length ≤ 9223372036854775807 := h.row.2.1
  clear h
  have NO : ¬ partOk l at_ n → partL l at_ n = [] ∧ partE l at_ n = 21 := fun hn => by unfold partL partE; rw [if_neg hn, if_neg hn]; exact ⟨rfl, rfl⟩
  by_cases c1 : at_ < 0
  · have c1b : decide (at_ < 0) = true := decide_eq_true c1
    obtain ⟨e1, e2⟩ := NO (fun hh => by have := hh.1; omega)
    rw [e1, e2]
    go_enter Try.func83, Try.ntmps83
    go_wp2
    go_ret2
    first | exact ⟨none, 0, rfl, Kd.C_nil _ _, Nat.le_refl _, rfl⟩ | exact ⟨0, rfl, Kd.C_nil _ _⟩ | exact ⟨none, rfl, Kd.C_nil _ _⟩ | exact ⟨none, 0, rfl, Kd.C_nil _ _⟩ | exact ⟨none, 0, rfl, Kd.C_nil _ _, rfl⟩ | exact ⟨none, ⟨0, rfl⟩, Kd.C_nil _ _, rfl⟩
  · have c1b : decide (at_ < 0) = false := decide_eq_false c1
    by_cases c2 : n < 0
    · have c2b : decide (n < 0) = true := decide_eq_true c2
      obtain ⟨e1, e2⟩ := NO (fun hh => by have := hh.2.1; omega)
      rw [e1, e2]
      go_enter Try.func83, Try.ntmps83
      go_wp2
      go_ret2
      first | exact ⟨none, 0, rfl, Kd.C_nil _ _, Nat.le_refl _, rfl⟩ | exact ⟨0, rfl, Kd.C_nil _ _⟩ | exact ⟨none, rfl, Kd.C_nil _ _⟩ | exact ⟨none, 0, rfl, Kd.C_nil _ _⟩ | exact ⟨none, 0, rfl, Kd.C_nil _ _, rfl⟩ | exact ⟨none, ⟨0, rfl⟩, Kd.C_nil _ _, rfl⟩
    · have c2b : decide (n < 0) = false := decide_eq_false c2
      by_cases c3 : (l.length : Int) < n
      · have c3b : decide ((l.length : Int) < n) = true := decide_eq_true c3
        obtain ⟨e1, e2⟩ := NO (fun hh => by have := hh.2.2.1; omega)
        rw [e1, e2]
        go_enter Try.func83, Try.ntmps83
        go_wp2
        go_ret2
        first | exact ⟨none, 0, rfl, Kd.C_nil _ _, Nat.le_refl _, rfl⟩ | exact ⟨0, rfl, Kd.C_nil _ _⟩ | exact ⟨none, rfl, Kd.C_nil _ _⟩ | exact ⟨none, 0, rfl, Kd.C_nil _ _⟩ | exact ⟨none, 0, rfl, Kd.C_nil _ _, rfl⟩ | exact ⟨none, ⟨0, rfl⟩, Kd.C_nil _ _, rfl⟩
      · have c3b : decide ((l.length : Int) < n) = false := decide_eq_false c3
        by_cases c4 : (l.length : Int) - n < at_
        · have c4b : decide ((l.length : Int) - n < at_) = true := decide_eq_true c4
          obtain ⟨e1, e2⟩ := NO (fun hh => by have := hh.2.2.2; omega)
          rw [e1, e2]
          go_enter Try.func83, Try.ntmps83
          go_wp2
          go_ret2
          first | exact ⟨none, 0, rfl, Kd.C_nil _ _, Nat.le_refl _, rfl⟩ | exact ⟨0, rfl, Kd.C_nil _ _⟩ | exact ⟨none, rfl, Kd.C_nil _ _⟩ | exact ⟨none, 0, rfl, Kd.C_nil _ _⟩ | exact ⟨none, 0, rfl, Kd.C_nil _ _, rfl⟩ | exact ⟨none, ⟨0, rfl⟩, Kd.C_nil _ _, rfl⟩
        · have c4b : decide ((l.length : Int) - n < at_) = false := decide_eq_false c4
          have hp : partOk l at_ n := ⟨by omega, by omega, by omega, by omega⟩
          have e2 : partE l at_ n = 0 := by unfold partE; rw [if_pos hp]
          have hk := HV.out.cap
          have hw : IntKind.i64.wrap (at_ + n) = at_ + n := by rw [IntKind.wrap_i64]; omega
          obtain ⟨i0, hi0, hz0⟩ := Option.map_eq_some_iff.1 infoU8
          simp only [Prod.mk.injEq] at hz0
          have hcut := cut_mid (P := Try.prog) 60 5 .i64 .i64 Try.underlying60 hi0 1 hz0.2.1 A l.length c at_ (at_ + n) (by omega) (by omega) (by omega) hk
          have hmid := Kd.C_mid (c := c) (lo := at_.toNat) (hi := (at_ + n).toNat) HV.out.row (by omega) (by omega) hk
          have hL : partL l at_ n = (l.take (at_ + n).toNat).drop at_.toNat := by unfold partL; rw [if_pos hp]
          have hlen := partL_length hp
          rw [← hL, show (Kd.int .u8).sz = 1 from rfl] at hmid
          rw [e2]
          generalize (if c = at_.toNat then A else A.map (fun x => x.add (at_.toNat * 1))) = B at hcut hmid
          have HM := Aside0.mk hmid
          have HL := Aside0.mk hlen
          clear hmid hL hlen hp NO hi0 hz0
          have hnn : (at_ + n).toNat - at_.toNat = (partL l at_ n).length := by rw [HL.out]; omega
          rw [hnn] at hcut
          go_enter Try.func83, Try.ntmps83
          go_wp2
          go_ret2
          exact ⟨_, _, rfl, HM.out, by rw [HL.out]; omega, rfl⟩
end Go.Proofs.Ytebmfbfmdbimdaa.F
