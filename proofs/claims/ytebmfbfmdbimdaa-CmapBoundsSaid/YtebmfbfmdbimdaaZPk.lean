/- slices.Clone of bytes: a row of its own with the same bytes. The views of package peek, walked: made, asked, cut. The numbers and tags that views tell, walked. -/
import Derived.Test.YtebmfbfmdbimdaaBase
namespace Go.Proofs.Ytebmfbfmdbimdaa.F
open Go.RowKit Go.Proofs.YtebmfbfmdbimdaaW.PrintWords Go.Proofs.YtebmfbfmdbimdaaW.PrintLast Go.Proofs.YtebmfbfmdbimdaaW.PrintMore
attribute [local go_sem] max2_int min2_int max_two min_two max_three min_three max_four min_four
set_option linter.unusedVariables false
set_option linter.unusedSimpArgs false
def slices_Clone_byte_byte.f (l0 : List Int) : Option (List Int) := (some (([] : List Int) : List Int)).bind fun y101 => (if y101.length + l0.length < 140737488355328 then (some (y101 ++ l0)) else (none))
set_option maxHeartbeats 8000000 in
set_option maxRecDepth 100000 in
theorem slices_Clone_byte_byte.calls (A0 : Option Addr) (c0 : Nat) (l0 : List Int) (r : List Int) (w : World) (hr0 : Kd.C (Kd.int .u8) w A0 l0.length l0) (hc0 : l0.length ≤ c0) (h : slices_Clone_byte_byte.f l0 = some r) :
    Calls Try.prog 52 #[.slice A0 l0.length c0] w fun e w' => ∃ v0_ : Value, e = .returned (v0_) ∧ Kd.R (Kd.int .u8) 5 w' w.heap.size (fun _ => True) v0_ r ∧ Below w.heap.size w w' := by
  have HR0 := Aside0.mk hr0
  have HC0 := Aside0.mk hc0
  clear hr0 hc0
  have HB := Aside0.mk (Below.refl w.heap.size w)
  cases A0 with
  | none =>
    have e0 : l0 = [] := by
      cases l0 with
      | nil => rfl
      | cons x l =>
        obtain ⟨ad, h1, _⟩ := Kd.at_int HR0.out 0 (Int.le_refl _) (by simp only [List.length_cons]; omega)
        cases h1
    subst e0
    have hr : r = [] := by
      simp [slices_Clone_byte_byte.f] at h
      exact h
    subst hr
    have hq : ∀ w : World, (binOp BinOp.eql 60 (.slice none 0 c0) (.slice none 0 0)).run Try.prog w = .ok (.bool true) w := fun _ => by kernel_rfl
    go_enter Try.func52, Try.ntmps52
    go_wp2
    go_ret
    exact ⟨_, rfl, Kd.R_nil _ _ _ _ _, Below.refl _ _⟩
  | some ad =>
    have H : ((some (([] : List Int) : List Int)).bind fun y101 => (if y101.length + l0.length < 140737488355328 then (some (y101 ++ l0)) else (none))) = some r := h
    clear h
    obtain ⟨y101, hy101⟩ : ∃ y_ : List Int, y_ = (([] : List Int)) := ⟨_, rfl⟩
    replace H : (if y101.length + l0.length < 140737488355328 then (some (y101 ++ l0)) else (none)) = some r := by first | (rw [hy101]; with_reducible exact H) | (have H2_ := (Option.bind_some _ _).symm.trans H; rw [hy101]; with_reducible exact H2_) | (have H2_ := (Option.bind_some _ _).symm.trans H; with_reducible exact H2_) | with_reducible exact H | (rw [hy101]; exact H) | exact H
    have Ny101 := Aside0.mk hy101
    clear hy101
    by_cases c2 : y101.length + l0.length < 140737488355328
    · rw [if_pos c2] at H
      have LMc2 := Aside0.mk c2
      clear c2
      obtain ⟨y104, hy104⟩ : ∃ y_ : List Int, y_ = (y101 ++ l0) := ⟨_, rfl⟩
      replace H : (some y104) = some r := by first | (rw [hy104]; with_reducible exact H) | (have H2_ := (Option.bind_some _ _).symm.trans H; rw [hy104]; with_reducible exact H2_) | (have H2_ := (Option.bind_some _ _).symm.trans H; with_reducible exact H2_) | with_reducible exact H | (rw [hy104]; exact H) | exact H
      have Ny104 := Aside0.mk hy104
      clear hy104
      obtain rfl := Option.some.inj H
      have hq : ∀ w : World, (binOp BinOp.eql 60 (.slice (some ad) l0.length c0) (.slice none 0 0)).run Try.prog w = .ok (.bool false) w := fun _ => by kernel_rfl
      go_enter Try.func52, Try.ntmps52
      go_wp2_with (first | ((with_reducible refine gate_dst (N := 5) rfl ?_); refine Kd.R_lit (Kd.int .u8) _ 5 ?hg (N := 5) ?hd (xs := ([] : List Int)) (inner := []) (ok := fun _ => True) (okp := fun _ => True) ?hr ?hp (fun _ hk => hk) trivial (Below.refl _ _) (Nat.le_refl _) (by simp) ?_; (case hd => rfl); (case hg => rfl); (case hr => first | (go_simp; done) | (go_simp; rfl)); (case hp => exact (Reps.none _ _)); intro v102 w3 ho4 hb hg_ hnew_; clear hg_ hnew_; (first | rw [← Ny101.out] at ho4 | (simp only [Int.reduceToNat] at ho4; rw [← Ny101.out] at ho4)); have n0_ := Aside0.mk (Kd.R_lower ho4 (below_size (by repeat (first | (with_reducible first | exact HB.out | apply below_alloc | apply pw_below_drewN | apply below_drew1) | exact HB.out)))); have n1_ := Aside0.mk (below_step (by repeat (first | (with_reducible first | exact HB.out | apply below_alloc | apply pw_below_drewN | apply below_drew1) | exact HB.out)) hb); clear HB; have HO103 := n0_; have HB := n1_; clear n0_ n1_; clear hb ho4) | ((with_reducible refine gate_builtin (b := .append) (xs := #[.tmp 5, .tmp 6]) rfl ?_); at_builtin; refine Kd.R_append_rows (Kd.int .u8) (w0 := w) w.heap.size rfl (.tmp 5) (.tmp 6) 60 5 (.int .u8 0) 1 rfl Try.underlying60 infoU8 rfl (by decide) (by omega) v102 y101 l0 _ _ _ (fun _ => True) (fun _ => False) rfl rfl ?aO ?aR (fun _ _ h => h) (fun _ h => h.elim) ?aF ?aB ?aS ?aL ?_; (case aR => repeat (first | exact (Kd.C_below HR0.out HB.out) | (with_reducible refine Kd.C_alloc ?_ _) | (with_reducible refine Kd.C_drewN ?_ _) | (with_reducible refine Kd.C_drew ?_))); (case aB => exact (by repeat (first | (with_reducible first | exact HB.out | apply below_alloc | apply pw_below_drewN | apply below_drew1) | exact HB.out))); (case aF => exact (fun _ _ => trivial)); (case aO => exact (by (with_reducible repeat (first | apply Kd.R_alloc | apply Kd.R_drewN | apply Kd.R_drew)); exact HO103.out)); (case aS => exact (below_size (by repeat (first | (with_reducible first | exact HB.out | apply below_alloc | apply pw_below_drewN | apply below_drew1) | exact HB.out)))); (case aL => have := LMc2.out; omega); intro v105 w5 ho hb hg hat; rw [← Ny104.out] at ho; have n0_ := Aside0.mk (hb); have n1_ := Aside0.mk (ho); clear HB; clear HO103; have HB := n0_; have HO106 := n1_; clear n0_ n1_; clear ho hb hg hat))
      go_ret
      exact ⟨_, by rfl, by (with_reducible repeat (first | apply Kd.R_alloc | apply Kd.R_drewN | apply Kd.R_drew)); exact HO106.out, by repeat (first | (with_reducible first | exact HB.out | apply below_alloc | apply pw_below_drewN | apply below_drew1) | exact HB.out)⟩
    · rw [if_neg c2] at H
      exact absurd H (by simp)
end Go.Proofs.Ytebmfbfmdbimdaa.F
namespace Go.Proofs.Ytebmfbfmdbimdaa.F
open Go.RowKit Go.Proofs.YtebmfbfmdbimdaaW.PrintWords Go.Proofs.YtebmfbfmdbimdaaW.PrintLast Go.Proofs.YtebmfbfmdbimdaaW.PrintMore
attribute [local go_sem] max2_int min2_int max_two min_two max_three min_three max_four min_four
set_option linter.unusedVariables false
set_option linter.unusedSimpArgs false
/-- Block p holds a view of the bytes l. -/
structure View (W : World) (p : Nat) (A : Option Addr) (c : Nat) (l : List Int) : Prop where
  blk : W.heap[p]? = some (.cells #[.slice A l.length c] 111 (0, 0))
  row : Kd.C (Kd.int .u8) W A l.length l
  cap : l.length ≤ c
theorem View.cell {W : World} {p : Nat} {A : Option Addr} {c : Nat} {l : List Int} (h : View W p A c l) : W.cell? ⟨p, 0, none⟩ = some (.slice A l.length c) := (blk_cell h.blk 0).trans rfl
theorem View.below {W W' : World} {p : Nat} {A : Option Addr} {c : Nat} {l : List Int} (h : View W p A c l) (hb : Below W.heap.size W W') : View W' p A c l := ⟨blk_below h.blk hb, Kd.C_below h.row hb, h.cap⟩
theorem clone_f (l : List Int) (hl : l.length < 140737488355328) : slices_Clone_byte_byte.f l = some l := by
  unfold slices_Clone_byte_byte.f
  rw [Option.bind_some, if_pos (by simpa using hl)]
  rfl
set_option maxRecDepth 100000 in
set_option maxHeartbeats 2000000 in
theorem peek_New.calls (A0 : Option Addr) (c0 : Nat) (l : List Int) (w : World) (hr0 : Kd.C (Kd.int .u8) w A0 l.length l) (hc0 : l.length ≤ c0) (hl : l.length < 140737488355328) :
    Calls Try.prog 40 #[.slice A0 l.length c0] w fun e w' => ∃ (p : Nat) (A : Option Addr) (c : Nat), e = .returned (.pointer (some ⟨p, 0, none⟩)) ∧ w.heap.size ≤ p ∧ p < w'.heap.size ∧ w'.heap[p]? = some (.cells #[.slice A l.length c] 111 (0, 0)) ∧
      Kd.R (Kd.int .u8) 5 w' w.heap.size (fun k => k ≠ p) (.slice A l.length c) l ∧ Below w.heap.size w w' := by
  have HC := Aside0.mk (clone_f l hl)
  have HR := Aside0.mk hr0
  have HK := Aside0.mk hc0
  clear hr0 hc0 hl
  go_enter Try.func40, Try.ntmps40
  go_wp2_with (first | (go_at_call 52; (with_reducible refine (slices_Clone_byte_byte.calls A0 c0 l l _ HR.out HK.out HC.out).mono ?_); rintro e w1 ⟨v, rfl, ho, hb⟩; obtain ⟨A, c, ev⟩ := Kd.R_slice ho; subst ev; have HO := Aside0.mk ho; have HB := Aside0.mk hb; clear ho hb))
  go_ret
  have hlt : w.heap.size ≤ w1.heap.size := HB.out.size
  have hbk := heap_alloc_new w1 (.cells #[.slice A l.length c] 111 (0, 0))
  refine ⟨w1.heap.size, A, c, rfl, hlt, blk_lt hbk, hbk, ?_, HB.out.alloc hlt _⟩
  exact Kd.R_mono (Kd.R_alloc (Kd.R_bound HO.out) _) (fun k hk => by have := hk.2.2.1; omega)
set_option maxRecDepth 100000 in
theorem peek_Len.calls (p : Nat) (A : Option Addr) (c : Nat) (l : List Int) (w : World) (h : View w p A c l) :
    Calls Try.prog 65 #[.pointer (some ⟨p, 0, none⟩)] w fun e w' => e = .returned (.int .i64 (l.length : Int)) ∧ w' = w := by
  have hc := h.cell
  clear h
  go_enter Try.func65, Try.ntmps65
  go_wp2
  go_ret
  exact ⟨rfl, rfl⟩
set_option maxRecDepth 100000 in
set_option maxHeartbeats 2000000 in
theorem peek_Bytes.calls (p : Nat) (A : Option Addr) (c : Nat) (l : List Int) (w : World) (h : View w p A c l) (hl : l.length < 140737488355328) :
    Calls Try.prog 66 #[.pointer (some ⟨p, 0, none⟩)] w fun e w' => ∃ v, e = .returned v ∧ Kd.R (Kd.int .u8) 5 w' w.heap.size (fun _ => True) v l ∧ Below w.heap.size w w' := by
  have hc := h.cell
  have HV := Aside0.mk h
  have HC := Aside0.mk (clone_f l hl)
  clear h hl
  go_enter Try.func66, Try.ntmps66
  go_wp2_with (first | (go_at_call 52; (with_reducible refine (slices_Clone_byte_byte.calls A c l l _ HV.out.row HV.out.cap HC.out).mono ?_); rintro e w1 ⟨v, rfl, ho, hb⟩; have HO := Aside0.mk ho; have HB := Aside0.mk hb; clear ho hb))
  go_ret
  exact ⟨_, rfl, HO.out, HB.out⟩
/-- n bytes from at on, or the refusal. -/
def partOk (l : List Int) (at_ n : Int) : Prop := 0 ≤ at_ ∧ 0 ≤ n ∧ n ≤ l.length ∧ at_ ≤ l.length - n
instance (l : List Int) (at_ n : Int) : Decidable (partOk l at_ n) := by unfold partOk; infer_instance
def partL (l : List Int) (at_ n : Int) : List Int := if partOk l at_ n then (l.take (at_ + n).toNat).drop at_.toNat else []
def partE (l : List Int) (at_ n : Int) : Int := if partOk l at_ n then 0 else 21
theorem partL_length {l : List Int} {at_ n : Int} (h : partOk l at_ n) : (partL l at_ n).length = n.toNat := by
  unfold partL
  rw [if_pos h, List.length_drop, List.length_take]
  unfold partOk at h
  omega
set_option maxRecDepth 100000 in
set_option maxHeartbeats 4000000 in
theorem peek_part.calls (p : Nat) (A : Option Addr) (c : Nat) (l : List Int) (at_ n : Int) (w : World) (h : View w p A c l) :
    Calls Try.prog 83 #[.pointer (some ⟨p, 0, none⟩), .int .i64 at_, .int .i64 n] w fun e w' => ∃ (B : Option Addr) (d : Nat), e = .returned (.tuple #[.slice B (partL l at_ n).length d, .int .i64 (partE l at_ n)]) ∧
      Kd.C (Kd.int .u8) w B (partL l at_ n).length (partL l at_ n) ∧ (partL l at_ n).length ≤ d ∧ w' = w := by
  have hc := h.cell
  have HV := Aside0.mk h
  have hm : l.length ≤ 9223372036854775807 := h.row.2.1
  clear h
  have NO : ¬ partOk l at_ n → partL l at_ n = [] ∧ partE l at_ n = 21 := fun hn => by unfold partL partE; rw [if_neg hn, if_neg hn]; exact ⟨rfl, rfl⟩
  by_cases c1 : at_ < 0
  · have c1b : decide (at_ < 0) = true := decide_eq_true c1
    obtain ⟨e1, e2⟩ := NO (fun hh => by have := hh.1; omega)
    rw [e1, e2]
    go_enter Try.func83, Try.ntmps83
    go_wp2
    go_ret2
    first | exact ⟨none, 0, rfl, Kd.C_nil _ _, Nat.le_refl _, rfl⟩ | exact ⟨0, rfl, Kd.C_nil _ _⟩ | exact ⟨none, rfl, Kd.C_nil _ _⟩ | exact ⟨none, 0, rfl, Kd.C_nil _ _⟩ | exact ⟨none, 0, rfl, Kd.C_nil _ _, rfl⟩ | exact ⟨none, ⟨0, rfl⟩, Kd.C_nil _ _, rfl⟩
  · have c1b : decide (at_ < 0) = false := decide_eq_false c1
    by_cases c2 : n < 0
    · have c2b : decide (n < 0) = true := decide_eq_true c2
      obtain ⟨e1, e2⟩ := NO (fun hh => by have := hh.2.1; omega)
      rw [e1, e2]
      go_enter Try.func83, Try.ntmps83
      go_wp2
      go_ret2
      first | exact ⟨none, 0, rfl, Kd.C_nil _ _, Nat.le_refl _, rfl⟩ | exact ⟨0, rfl, Kd.C_nil _ _⟩ | exact ⟨none, rfl, Kd.C_nil _ _⟩ | exact ⟨none, 0, rfl, Kd.C_nil _ _⟩ | exact ⟨none, 0, rfl, Kd.C_nil _ _, rfl⟩ | exact ⟨none, ⟨0, rfl⟩, Kd.C_nil _ _, rfl⟩
    · have c2b : decide (n < 0) = false := decide_eq_false c2
      by_cases c3 : (l.length : Int) < n
      · have c3b : decide ((l.length : Int) < n) = true := decide_eq_true c3
        obtain ⟨e1, e2⟩ := NO (fun hh => by have := hh.2.2.1; omega)
        rw [e1, e2]
        go_enter Try.func83, Try.ntmps83
        go_wp2
        go_ret2
        first | exact ⟨none, 0, rfl, Kd.C_nil _ _, Nat.le_refl _, rfl⟩ | exact ⟨0, rfl, Kd.C_nil _ _⟩ | exact ⟨none, rfl, Kd.C_nil _ _⟩ | exact ⟨none, 0, rfl, Kd.C_nil _ _⟩ | exact ⟨none, 0, rfl, Kd.C_nil _ _, rfl⟩ | exact ⟨none, ⟨0, rfl⟩, Kd.C_nil _ _, rfl⟩
      · have c3b : decide ((l.length : Int) < n) = false := decide_eq_false c3
        by_cases c4 : (l.length : Int) - n < at_
        · have c4b : decide ((l.length : Int) - n < at_) = true := decide_eq_true c4
          obtain ⟨e1, e2⟩ := NO (fun hh => by have := hh.2.2.2; omega)
          rw [e1, e2]
          go_enter Try.func83, Try.ntmps83
          go_wp2
          go_ret2
          first | exact ⟨none, 0, rfl, Kd.C_nil _ _, Nat.le_refl _, rfl⟩ | exact ⟨0, rfl, Kd.C_nil _ _⟩ | exact ⟨none, rfl, Kd.C_nil _ _⟩ | exact ⟨none, 0, rfl, Kd.C_nil _ _⟩ | exact ⟨none, 0, rfl, Kd.C_nil _ _, rfl⟩ | exact ⟨none, ⟨0, rfl⟩, Kd.C_nil _ _, rfl⟩
        · have c4b : decide ((l.length : Int) - n < at_) = false := decide_eq_false c4
          have hp : partOk l at_ n := ⟨by omega, by omega, by omega, by omega⟩
          have e2 : partE l at_ n = 0 := by unfold partE; rw [if_pos hp]
          have hk := HV.out.cap
          have hw : IntKind.i64.wrap (at_ + n) = at_ + n := by rw [IntKind.wrap_i64]; omega
          obtain ⟨i0, hi0, hz0⟩ := Option.map_eq_some_iff.1 infoU8
          simp only [Prod.mk.injEq] at hz0
          have hcut := cut_mid (P := Try.prog) 60 5 .i64 .i64 Try.underlying60 hi0 1 hz0.2.1 A l.length c at_ (at_ + n) (by omega) (by omega) (by omega) hk
          have hmid := Kd.C_mid (c := c) (lo := at_.toNat) (hi := (at_ + n).toNat) HV.out.row (by omega) (by omega) hk
          have hL : partL l at_ n = (l.take (at_ + n).toNat).drop at_.toNat := by unfold partL; rw [if_pos hp]
          have hlen := partL_length hp
          rw [← hL, show (Kd.int .u8).sz = 1 from rfl] at hmid
          rw [e2]
          generalize (if c = at_.toNat then A else A.map (fun x => x.add (at_.toNat * 1))) = B at hcut hmid
          have HM := Aside0.mk hmid
          have HL := Aside0.mk hlen
          clear hmid hL hlen hp NO hi0 hz0
          have hnn : (at_ + n).toNat - at_.toNat = (partL l at_ n).length := by rw [HL.out]; omega
          rw [hnn] at hcut
          go_enter Try.func83, Try.ntmps83
          go_wp2
          go_ret2
          exact ⟨_, _, rfl, HM.out, by rw [HL.out]; omega, rfl⟩
end Go.Proofs.Ytebmfbfmdbimdaa.F
namespace Go.Proofs.Ytebmfbfmdbimdaa.F
open Go.RowKit Go.Proofs.YtebmfbfmdbimdaaW.PrintWords Go.Proofs.YtebmfbfmdbimdaaW.PrintLast Go.Proofs.YtebmfbfmdbimdaaW.PrintMore
attribute [local go_sem] max2_int min2_int max_two min_two max_three min_three max_four min_four
set_option linter.unusedVariables false
set_option linter.unusedSimpArgs false
/-- The number that bytes write. -/
def numL : List Int → Int → Int
  | [], x => x
  | c :: r, x => numL r (x * 256 + c)
theorem part_mem {l : List Int} {at_ n z : Int} (h : z ∈ partL l at_ n) : z ∈ l := by
  unfold partL at h
  split at h
  · exact List.mem_of_mem_take (List.mem_of_mem_drop h)
  · cases h
theorem part_le {l : List Int} {at_ n : Int} (hn : n ≤ 4) : (partL l at_ n).length ≤ 4 := by
  by_cases h : partOk l at_ n
  · rw [partL_length h]
    omega
  · unfold partL
    rw [if_neg h]
    exact Nat.zero_le _
theorem or_i64_nat (y b : Nat) (hy : y < 16777216) (hb : b < 256) : bits .or .i64 ((y * 256 : Nat) : Int) (b : Int) = ((y * 256 + b : Nat) : Int) := by
  show IntKind.i64.wrap ((BitVec.ofInt 64 ((y * 256 : Nat) : Int) ||| BitVec.ofInt 64 (b : Int)).toNat : Int) = _
  have e1 : (BitVec.ofInt 64 ((y * 256 : Nat) : Int)).toNat = y * 256 := by rw [BitVec.ofInt_natCast, BitVec.toNat_ofNat]; exact Nat.mod_eq_of_lt (by omega)
  have e2 : (BitVec.ofInt 64 (b : Int)).toNat = b := by rw [BitVec.ofInt_natCast, BitVec.toNat_ofNat]; exact Nat.mod_eq_of_lt (by omega)
  have e3 : y * 256 ||| b = y * 256 + b := by
    have := Nat.shiftLeft_add_eq_or_of_lt (b := b) (i := 8) (by omega) y
    rw [Nat.shiftLeft_eq] at this
    exact this.symm
  rw [BitVec.toNat_or, e1, e2, e3, IntKind.wrap_i64]
  omega
theorem or_i64 (x c : Int) (hx : 0 ≤ x ∧ x < 16777216) (hc : 0 ≤ c ∧ c ≤ 255) : bits .or .i64 (wrap64 (x * 256)) (wrap64 c) = x * 256 + c := by
  obtain ⟨y, rfl⟩ := Int.eq_ofNat_of_zero_le hx.1
  obtain ⟨b, rfl⟩ := Int.eq_ofNat_of_zero_le hc.1
  have e1 : wrap64 ((y : Int) * 256) = ((y * 256 : Nat) : Int) := by unfold wrap64; omega
  have e2 : wrap64 (b : Int) = (b : Int) := by unfold wrap64; omega
  rw [e1, e2, or_i64_nat y b (by omega) (by omega)]
  omega
set_option maxRecDepth 100000 in
set_option maxHeartbeats 4000000 in
theorem peek_number.calls (p : Nat) (A : Option Addr) (c : Nat) (l : List Int) (at_ n : Int) (w : World) (h : View w p A c l) (hb : ∀ z ∈ l, 0 ≤ z ∧ z ≤ 255) (hn : n ≤ 4) :
    Calls Try.prog 88 #[.pointer (some ⟨p, 0, none⟩), .int .i64 at_, .int .i64 n] w fun e w' => e = .returned (.tuple #[.int .i64 (numL (partL l at_ n) 0), .int .i64 (partE l at_ n)]) ∧ w' = w := by
  have HV := Aside0.mk h
  have HP := Aside0.mk (peek_part.calls p A c l at_ n)
  have hL : ∀ z ∈ partL l at_ n, 0 ≤ z ∧ z ≤ 255 := fun z hz => hb z (part_mem hz)
  have hlen : (partL l at_ n).length ≤ 4 := part_le hn
  generalize partL l at_ n = L at *
  generalize partE l at_ n = E at *
  have HL := Aside0.mk hL
  have HN := Aside0.mk hlen
  clear hL hb hn hlen h
  go_enter Try.func88, Try.ntmps88
  go_wp2_with (first | (go_at_call 83; (with_reducible refine (HP.out _ HV.out).mono ?_); rintro e w' ⟨B, d, rfl, hC, hd, rfl⟩; have HC := Aside0.mk hC; clear hC))
  clear HV HP
  go_loopw [22, 10] (fun s t wr => ∃ (i : Nat) (x : Int), s = .int .i64 i ∧ t = .int .i64 x ∧ Aside0 (i ≤ L.length ∧ 0 ≤ x ∧ x < 256 ^ i) ∧ wr = w' ∧ Aside0 (numL (L.drop i) x = numL L 0)) (fun s _ _ => L.length - (intOf s).toNat)
  case atStart => exact ⟨0, 0, rfl, rfl, ⟨Nat.zero_le _, by decide, by decide⟩, rfl, ⟨rfl⟩⟩
  case round =>
    obtain ⟨i, x, rfl, rfl, HI, rfl, HX⟩ := hrel
    by_cases hlt : i < L.length
    · have hltb : decide ((i : Int) < (L.length : Int)) = true := decide_eq_true (by omega)
      obtain ⟨ad, eB, hx⟩ := Kd.at_int HC.out (i : Int) (by omega) (by omega)
      subst eB
      rw [Int.toNat_natCast] at hx
      have p1 := eq_true (show 0 ≤ (i : Int) by omega)
      have q1 := eq_true (show (i : Int) < (L.length : Int) by omega)
      have hi3 : i ≤ 3 := by have := HN.out; omega
      have hx24 : x < 16777216 := by
        have := HI.out.2.2
        have h3 : (256 : Int) ^ i ≤ 256 ^ 3 := by exact_mod_cast Nat.pow_le_pow_right (by decide : 0 < 256) hi3
        omega
      have hmem : rd L (i : Int) ∈ L := by
        unfold rd
        rw [Int.toNat_natCast, List.getD_eq_getElem?_getD, List.getElem?_eq_getElem hlt]
        exact List.getElem_mem hlt
      have hcb := HL.out _ hmem
      have HO := Aside0.mk (or_i64 x (rd L (i : Int)) ⟨HI.out.2.1, hx24⟩ hcb)
      have hdr : L.drop i = rd L (i : Int) :: L.drop (i + 1) := by
        unfold rd
        rw [Int.toNat_natCast, List.getD_eq_getElem?_getD, List.getElem?_eq_getElem hlt]
        exact List.drop_eq_getElem_cons hlt
      have HD := Aside0.mk hdr
      have HCB := Aside0.mk hcb
      have HT := Aside0.mk hlt
      have HI3 := Aside0.mk hi3
      clear hmem hcb hdr hx24 hlt hi3
      go_wp2
      have hw1 : wrap64 ((i : Int) + 1) = ((i + 1 : Nat) : Int) := by
        have := HI3.out
        unfold wrap64
        omega
      rw [HO.out, hw1]
      refine ⟨⟨i + 1, _, rfl, rfl, ⟨HT.out, ?_, ?_⟩, trivial, ⟨?_⟩⟩, ?_⟩
      · have := HI.out.2.1
        have := HCB.out.1
        omega
      · have h1 := HI.out.2.2
        have h2 := HCB.out.2
        rw [Int.pow_succ]
        omega
      · have := HX.out
        rw [HD.out, numL] at this
        exact this
      · have := HT.out
        simp only [intOf]
        omega
    · have hltb : decide ((i : Int) < (L.length : Int)) = false := decide_eq_false (by omega)
      have hi : i = L.length := by have := HI.out.1; omega
      go_wp2
      go_ret2
      have := HX.out
      rw [hi, List.drop_length, numL] at this
      rw [this]
      first | exact ⟨rfl, rfl⟩ | rfl
end Go.Proofs.Ytebmfbfmdbimdaa.F
