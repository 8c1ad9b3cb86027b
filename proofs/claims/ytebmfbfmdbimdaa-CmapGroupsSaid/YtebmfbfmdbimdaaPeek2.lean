/- The numbers and tags that views tell, walked. -/
import Derived.Test.YtebmfbfmdbimdaaPeek
namespace Go.Proofs.Ytebmfbfmdbimdaa.F
open Go.RowKit Go.Proofs.YtebmfbfmdbimdaaW.PrintWords Go.Proofs.YtebmfbfmdbimdaaW.PrintLast Go.Proofs.YtebmfbfmdbimdaaW.PrintMore
attribute [local go_sem] max2_int min2_int max_two min_two max_three min_three max_four min_four
set_option linter.unusedVariables false
set_option linter.unusedSimpArgs false
/-- The number that bytes write. -/
def numL : List Int → Int → Int
  | [], x => x
  | c :: r, x => numL r (x * 256 + c)
theorem part_mem {l : List Int} {at_ n z : Int} (h : z ∈ partL l at_ n) : z ∈ l := by
  unfold partL at h
  split at h
  · exact List.mem_of_mem_take (List.mem_of_mem_drop h)
  · cases h
theorem part_le {l : List Int} {at_ n : Int} (hn : n ≤ 4) : (partL l at_ n).length ≤ 4 := by
  by_cases h : partOk l at_ n
  · rw [partL_length h]
    omega
  · unfold partL
    rw [if_neg h]
    exact Nat.zero_le _
theorem or_i64_nat (y b : Nat) (hy : y < 16777216) (hb : b < 256) : bits .or .i64 ((y * 256 : Nat) : Int) (b : Int) = ((y * 256 + b : Nat) : Int) := by
  show IntKind.i64.wrap ((BitVec.ofInt 64 ((y * 256 : Nat) : Int) ||| BitVec.ofInt 64 (b : Int)).toNat : Int) = _
  have e1 : (BitVec.ofInt 64 ((y * 256 : Nat) : Int)).toNat = y * 256 := by rw [BitVec.ofInt_natCast, BitVec.toNat_ofNat]; exact Nat.mod_eq_of_lt (by omega)
  have e2 : (BitVec.ofInt 64 (b : Int)).toNat = b := by rw [BitVec.ofInt_natCast, BitVec.toNat_ofNat]; exact Nat.mod_eq_of_lt (by omega)
  have e3 : y * 256 ||| b = y * 256 + b := by
    have := Nat.shiftLeft_add_eq_or_of_lt (b := b) (i := 8) (by omega) y
    rw [Nat.shiftLeft_eq] at this
    exact this.symm
  rw [BitVec.toNat_or, e1, e2, e3, IntKind.wrap_i64]
  omega
theorem or_i64 (x c : Int) (hx : 0 ≤ x ∧ x < 16777216) (hc : 0 ≤ c ∧ c ≤ 255) : bits .or .i64 (wrap64 (x * 256)) (wrap64 c) = x * 256 + c := by
  obtain ⟨y, rfl⟩ := Int.eq_ofNat_of_zero_le hx.1
  obtain ⟨b, rfl⟩ := Int.eq_ofNat_of_zero_le hc.1
  have e1 : wrap64 ((y : Int) * 256) = ((y * 256 : Nat) : Int) := by unfold wrap64; omega
  have e2 : wrap64 (b : Int) = (b : Int) := by unfold wrap64; omega
  rw [e1, e2, or_i64_nat y b (by omega) (by omega)]
  omega
set_option maxRecDepth 100000 in
set_option maxHeartbeats 4000000 in
theorem peek_number.calls (p : Nat) (A : Option Addr) (c : Nat) (l : List Int) (at_ n : Int) (w : World) (h : View w p A c l) (hb : ∀ z ∈ l, 0 ≤ z ∧ z ≤ 255) (hn : n ≤ 4) :
    Calls Try.prog 88 #[.pointer (some ⟨p, 0, none⟩), .int .i64 at_, .int .i64 n] w fun e w' => e = .returned (.tuple #[.int .i64 (numL (partL l at_ n) 0), .int .i64 (partE l at_ n)]) ∧ w' = w := by
  have HV := Aside0.mk h
  have HP := Aside0.mk (peek_part.calls p A c l at_ n)
  have hL : ∀ z ∈ partL l at_ n, 0 ≤ z ∧ z ≤ 255 := fun z hz => hb z (part_mem hz)
  have hlen : (partL l at_ n).length ≤ 4 := part_le hn
  generalize partL l at_ n = L at *
  generalize partE l at_ n = E at *
  have HL := Aside0.mk hL
  have HN := Aside0.mk hlen
  clear hL hb hn hlen h
  go_enter Try.func88, Try.ntmps88
  go_wp2_with (first | (go_at_call 83; (with_reducible refine (HP.out _ HV.out).mono ?_); rintro e w' ⟨B, d, rfl, hC, hd, rfl⟩; have HC := Aside0.mk hC; clear hC))
  clear HV HP
  go_loopw [22, 10] (fun s t wr => ∃ (i : Nat) (x : Int), s = .int .i64 i ∧ t = .int .i64 x ∧ Aside0 (i ≤ L.length ∧ 0 ≤ x ∧ x < 256 ^ i) ∧ wr = w' ∧ Aside0 (numL (L.drop i) x = numL L 0)) (fun s _ _ => L.length - (intOf s).toNat)
  case atStart => exact ⟨0, 0, rfl, rfl, ⟨Nat.zero_le _, by decide, by decide⟩, rfl, ⟨rfl⟩⟩
  case round =>
    obtain ⟨i, x, rfl, rfl, HI, rfl, HX⟩ := hrel
    by_cases hlt : i < L.length
    · have hltb : decide ((i : Int) < (L.length : Int)) = true := decide_eq_true (by omega)
      obtain ⟨ad, eB, hx⟩ := Kd.at_int HC.out (i : Int) (by omega) (by omega)
      subst eB
      rw [Int.toNat_natCast] at hx
      have p1 := eq_true (show 0 ≤ (i : Int) by omega)
      have q1 := eq_true (show (i : Int) < (L.length : Int) by omega)
      have hi3 : i ≤ 3 := by have := HN.out; omega
      have hx24 : x < 16777216 := by
        have := HI.out.2.2
        have h3 : (256 : Int) ^ i ≤ 256 ^ 3 := by exact_mod_cast Nat.pow_le_pow_right (by decide : 0 < 256) hi3
        omega
      have hmem : rd L (i : Int) ∈ L := by
        unfold rd
        rw [Int.toNat_natCast, List.getD_eq_getElem?_getD, List.getElem?_eq_getElem hlt]
        exact List.getElem_mem hlt
      have hcb := HL.out _ hmem
      have HO := Aside0.mk (or_i64 x (rd L (i : Int)) ⟨HI.out.2.1, hx24⟩ hcb)
      have hdr : L.drop i = rd L (i : Int) :: L.drop (i + 1) := by
        unfold rd
        rw [Int.toNat_natCast, List.getD_eq_getElem?_getD, List.getElem?_eq_getElem hlt]
        exact List.drop_eq_getElem_cons hlt
      have HD := Aside0.mk hdr
      have HCB := Aside0.mk hcb
      have HT := Aside0.mk hlt
      have HI3 := Aside0.mk hi3
      clear hmem hcb hdr hx24 hlt hi3
      go_wp2
      have hw1 : wrap64 ((i : Int) + 1) = ((i + 1 : Nat) : Int) := by
        have := HI3.out
        unfold wrap64
        omega
      rw [HO.out, hw1]
      refine ⟨⟨i + 1, _, rfl, rfl, ⟨HT.out, ?_, ?_⟩, trivial, ⟨?_⟩⟩, ?_⟩
      · have := HI.out.2.1
        have := HCB.out.1
        omega
      · have h1 := HI.out.2.2
        have h2 := HCB.out.2
        rw [Int.pow_succ]
        omega
      · have := HX.out
        rw [HD.out, numL] at this
        exact this
      · have := HT.out
        simp only [intOf]
        omega
    · have hltb : decide ((i : Int) < (L.length : Int)) = false := decide_eq_false (by omega)
      have hi : i = L.length := by have := HI.out.1; omega
      go_wp2
      go_ret2
      have := HX.out
      rw [hi, List.drop_length, numL] at this
      rw [this]
      first | exact ⟨rfl, rfl⟩ | rfl
end Go.Proofs.Ytebmfbfmdbimdaa.F
