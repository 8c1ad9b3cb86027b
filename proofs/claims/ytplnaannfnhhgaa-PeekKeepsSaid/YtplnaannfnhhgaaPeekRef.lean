/- The document's answers for views, and the example. -/
import Derived.Test.YtplnaannfnhhgaaPeek3
import Derived.Test.YtplnaannfnhhgaaKx1
namespace Go.Proofs.Ytplnaannfnhhgaa.K
open Go.RowKit Go.Proofs.YtplnaannfnhhgaaW.PrintWords Go.Proofs.YtplnaannfnhhgaaW.PrintLast Go.Proofs.YtplnaannfnhhgaaW.PrintMore Go.Proofs.Ytplnaannfnhhgaa.F
set_option linter.unusedVariables false
set_option linter.unusedSimpArgs false
theorem w64 {x : Int} (h0 : -9223372036854775808 ≤ x) (h1 : x ≤ 9223372036854775807) : wrap64 x = x := by unfold wrap64; omega
theorem has_f (l : List Int) (at_ n : Int) (hl : l.length ≤ 9223372036854775807) : serifref02_Has.f l at_ n = some (decide (partOk l at_ n)) := by
  unfold serifref02_Has.f
  by_cases c1 : at_ ≥ 0
  · rw [if_pos c1]
    by_cases c2 : n ≥ 0
    · rw [if_pos c2]
      by_cases c3 : at_ ≤ (l.length : Int)
      · rw [if_pos c3, w64 (by omega) (by omega)]
        congr 1
        exact decide_eq_decide.2 (by unfold partOk; omega)
      · rw [if_neg c3]
        congr 1
        exact (decide_eq_false (by unfold partOk; omega)).symm
    · rw [if_neg c2]
      congr 1
      exact (decide_eq_false (by unfold partOk; omega)).symm
  · rw [if_neg c1]
    congr 1
    exact (decide_eq_false (by unfold partOk; omega)).symm
theorem numL_snoc : ∀ (L : List Int) (c x : Int), numL (L ++ [c]) x = numL L x * 256 + c
  | [], c, x => rfl
  | a :: r, c, x => by
    rw [List.cons_append, numL, numL, numL_snoc r c]
theorem numL_bound : ∀ (L : List Int), (∀ z ∈ L, 0 ≤ z ∧ z ≤ 255) → ∀ x : Int, 0 ≤ x → 0 ≤ numL L x ∧ numL L x < (x + 1) * 256 ^ L.length
  | [], _, x, hx => by
    rw [numL]
    simp
    exact ⟨hx, by omega⟩
  | c :: r, h, x, hx => by
    have hc := h c (by simp)
    have := numL_bound r (fun z hz => h z (by simp [hz])) (x * 256 + c) (by omega)
    rw [numL]
    refine ⟨this.1, Int.lt_of_lt_of_le this.2 ?_⟩
    rw [List.length_cons, Int.pow_succ, Int.mul_comm (256 ^ r.length) 256, ← Int.mul_assoc]
    exact Int.mul_le_mul_of_nonneg_right (by omega) (Int.pow_nonneg (by decide))
theorem rd_part {l : List Int} {at_ n : Int} (h : partOk l at_ n) (i : Nat) (hi : (i : Int) < n) : rd l (at_ + i) = rd (partL l at_ n) (i : Int) := by
  unfold partL
  rw [if_pos h]
  unfold partOk at h
  unfold rd
  rw [Int.toNat_natCast, List.getD_eq_getElem?_getD, List.getD_eq_getElem?_getD, List.getElem?_drop, List.getElem?_take, if_pos (by omega)]
  congr 2
  omega
theorem drop_rd {L : List Int} {i : Nat} (hlt : i < L.length) : L.drop i = rd L (i : Int) :: L.drop (i + 1) := by
  unfold rd
  rw [Int.toNat_natCast, List.getD_eq_getElem?_getD, List.getElem?_eq_getElem hlt]
  exact List.drop_eq_getElem_cons hlt
theorem rd_mem {L : List Int} {i : Nat} (hlt : i < L.length) : rd L (i : Int) ∈ L := by
  unfold rd
  rw [Int.toNat_natCast, List.getD_eq_getElem?_getD, List.getElem?_eq_getElem hlt]
  exact List.getElem_mem hlt
theorem pow_small {i : Nat} (hi : i ≤ 3) {x : Int} (h : x < 256 ^ i) : x < 16777216 := by
  have h3 : (256 : Int) ^ i ≤ 16777216 := by
    have : i = 0 ∨ i = 1 ∨ i = 2 ∨ i = 3 := by omega
    rcases this with rfl | rfl | rfl | rfl <;> decide
  omega
theorem num_l (l : List Int) (at_ n : Int) (hl : l.length ≤ 9223372036854775807) (hb : ∀ z ∈ l, 0 ≤ z ∧ z ≤ 255) (h : partOk l at_ n) (hn : n ≤ 4) : ∀ (d i : Nat) (x : Int), (i : Int) + d = n → 0 ≤ x → x < 256 ^ i → numL ((partL l at_ n).drop i) x = numL (partL l at_ n) 0 →
    Ev (fun k => serifref02_Num.l0 k l at_ n x (i : Int)) (numL (partL l at_ n) 0, 0)
  | 0, i, x, hi, h0, h1, hx => by
    refine Ev.step (f := fun _ => some (numL (partL l at_ n) 0, 0)) (fun k => ?_) (Ev.now _)
    rw [serifref02_Num.l0, if_neg (by omega)]
    have hlen := partL_length h
    rw [List.drop_of_length_le (by rw [hlen]; omega), numL] at hx
    rw [hx]
  | d + 1, i, x, hi, h0, h1, hx => by
    have hlen := partL_length h
    have hlt : i < (partL l at_ n).length := by rw [hlen]; omega
    have hrd := rd_part h i (by omega)
    have hp1 := h.1
    have hp4 := h.2.2.2
    have i1 : (i : Int) < n := by omega
    have i2 : 0 ≤ at_ + (i : Int) := by omega
    have i3 : at_ + (i : Int) < (l.length : Int) := by omega
    have hx24 := pow_small (show i ≤ 3 by omega) h1
    have hcb := hb _ (part_mem (rd_mem hlt))
    rw [drop_rd hlt, numL] at hx
    have g1 : wrap64 (at_ + (i : Int)) = at_ + (i : Int) := w64 (by omega) (by omega)
    have G1 := Aside0.mk g1
    clear g1
    generalize rd (partL l at_ n) (i : Int) = c at *
    have g2 : wrap64 (x * 256) = x * 256 := w64 (by omega) (by omega)
    have G2 := Aside0.mk g2
    clear g2
    have g3 : wrap64 c = c := w64 (by omega) (by omega)
    have G3 := Aside0.mk g3
    clear g3
    have g4 : wrap64 (x * 256 + c) = x * 256 + c := w64 (by omega) (by omega)
    have G4 := Aside0.mk g4
    clear g4
    have g5 : wrap64 ((i : Int) + 1) = ((i + 1 : Nat) : Int) := by rw [w64 (by omega) (by omega)]; omega
    have G5 := Aside0.mk g5
    clear g5
    refine Ev.step (fun k => ?_) (num_l l at_ n hl hb h hn d (i + 1) (x * 256 + c) (by omega) (by omega) (by rw [Int.pow_succ]; omega) hx)
    rw [serifref02_Num.l0, if_pos i1, G1.out, if_pos i2, if_pos i3, hrd, G2.out, G3.out, G4.out, G5.out]
theorem num_ev (l : List Int) (at_ n : Int) (hl : l.length ≤ 9223372036854775807) (hb : ∀ z ∈ l, 0 ≤ z ∧ z ≤ 255) (hn : 0 ≤ n ∧ n ≤ 4) : Ev (fun k => serifref02_Num.f k l at_ n) (numL (partL l at_ n) 0, partE l at_ n) := by
  unfold serifref02_Num.f
  rw [has_f l at_ n hl]
  simp only [Option.bind_some]
  by_cases h : partOk l at_ n
  · simp only [decide_eq_true h, if_true]
    have e : partE l at_ n = 0 := by unfold partE; rw [if_pos h]
    rw [e]
    exact num_l l at_ n hl hb h hn.2 n.toNat 0 0 (by omega) (by decide) (by decide) rfl
  · simp only [decide_eq_false h, Bool.false_eq_true, if_false]
    have e : partE l at_ n = 21 := by unfold partE; rw [if_neg h]
    have e2 : partL l at_ n = [] := by unfold partL; rw [if_neg h]
    rw [e, e2]
    exact Ev.now _
theorem i16_ev (l : List Int) (at_ : Int) (hl : l.length ≤ 9223372036854775807) (hb : ∀ z ∈ l, 0 ≤ z ∧ z ≤ 255) : Ev (fun k => serifref02_I16.f k l at_) (wrap64 (IntKind.i16.wrap (numL (partL l at_ 2) 0))) := by
  have hbd : 0 ≤ numL (partL l at_ 2) 0 ∧ numL (partL l at_ 2) 0 < 65536 := by
    have h1 := numL_bound (partL l at_ 2) (fun z hz => hb z (part_mem hz)) 0 (by decide)
    have h2 : (partL l at_ 2).length ≤ 2 := by
      by_cases h : partOk l at_ 2
      · rw [partL_length h]; decide
      · unfold partL
        rw [if_neg h]
        exact Nat.zero_le _
    have h3 : (256 : Int) ^ (partL l at_ 2).length ≤ 65536 := by
      have : (partL l at_ 2).length = 0 ∨ (partL l at_ 2).length = 1 ∨ (partL l at_ 2).length = 2 := by omega
      rcases this with h | h | h <;> rw [h] <;> decide
    omega
  unfold serifref02_I16.f serifref02_U16.f
  refine Ev.bind (Ev.bind (num_ev l at_ 2 hl hb (by decide)) (Ev.now _)) ?_
  dsimp only
  generalize numL (partL l at_ 2) 0 = v at *
  have hw : IntKind.i16.wrap v = if 32768 ≤ v then v - 65536 else v := by
    simp [IntKind.wrap, IntKind.bits, IntKind.signed]
    split <;> split <;> omega
  by_cases c : v ≥ 32768
  · simp only [if_pos c]
    rw [hw, if_pos c]
    exact Ev.now _
  · simp only [if_neg c]
    rw [hw, if_neg c, w64 (by omega) (by omega)]
    exact Ev.now _
set_option maxRecDepth 100000 in
set_option maxHeartbeats 2000000 in
theorem ref_Tag.calls (A : Option Addr) (c : Nat) (l : List Int) (at_ : Int) (w : World) (hr : Kd.C (Kd.int .u8) w A l.length l) (hc : l.length ≤ c) :
    Calls Try.prog 33 #[.slice A l.length c, .int .i64 at_] w fun e w' => e = .returned (.string (strOfNums (partL l at_ 4))) ∧ Drawn0 w w' := by
  have HR := Aside0.mk hr
  have HC := Aside0.mk hc
  have hm := hr.2.1
  clear hr hc
  have HF := Aside0.mk (has_f l at_ 4 hm)
  by_cases hp : partOk l at_ 4
  · rw [decide_eq_true hp] at HF
    have h1 := hp.1
    have h2 : at_ + 4 ≤ l.length := by have := hp.2.2.2; omega
    have hw : IntKind.i64.wrap (at_ + 4) = at_ + 4 := by rw [IntKind.wrap_i64]; omega
    obtain ⟨i0, hi0, hz0⟩ := Option.map_eq_some_iff.1 infoU8
    simp only [Prod.mk.injEq] at hz0
    have hcut := cut_mid (P := Try.prog) 22 5 .i64 .i64 Try.underlying22 hi0 1 hz0.2.1 A l.length c at_ (at_ + 4) (by omega) (by omega) (by omega) HC.out
    have hmid := Kd.C_mid (c := c) (lo := at_.toNat) (hi := (at_ + 4).toNat) HR.out (by omega) (by omega) HC.out
    have hL : partL l at_ 4 = (l.take (at_ + 4).toNat).drop at_.toNat := by unfold partL; rw [if_pos hp]
    have hlen := partL_length hp
    rw [← hL, show (Kd.int .u8).sz = 1 from rfl] at hmid
    generalize (if c = at_.toNat then A else A.map (fun x => x.add (at_.toNat * 1))) = B at hcut hmid
    have hnn : (at_ + 4).toNat - at_.toNat = (partL l at_ 4).length := by rw [hlen]; omega
    rw [hnn] at hcut
    have HM := Aside0.mk hmid
    clear hmid hL hlen hp hi0 hz0 h1 h2 hm
    generalize partL l at_ 4 = L at *
    have hs : ∀ m : Nat, (convert 22 9 (.slice B L.length (c - at_.toNat))).run Try.prog (w.drewN m) = .ok (.string (strOfNums L)) (w.drewN m) := fun m => str_of (Kd.C_drewN HM.out m)
    have hs0 : (convert 22 9 (.slice B L.length (c - at_.toNat))).run Try.prog w = .ok (.string (strOfNums L)) w := str_of HM.out
    go_enter Try.func33, Try.ntmps33
    go_wp2_with (first | (go_at_call 32; (with_reducible refine (serifref02_Has.calls A c l at_ 4 true _ HR.out HC.out HF.out).mono ?_); rintro e w' ⟨rfl, ⟨nd, rfl⟩⟩))
    go_ret
    exact ⟨rfl, ⟨_, rfl⟩⟩
  · rw [decide_eq_false hp] at HF
    have hL : partL l at_ 4 = [] := by unfold partL; rw [if_neg hp]
    have hE : strOfNums ([] : List Int) = (⟨#[]⟩ : ByteArray) := rfl
    rw [hL, hE]
    clear hL hp hm
    go_enter Try.func33, Try.ntmps33
    go_wp2_with (first | (go_at_call 32; (with_reducible refine (serifref02_Has.calls A c l at_ 4 false _ HR.out HC.out HF.out).mono ?_); rintro e w' ⟨rfl, ⟨nd, rfl⟩⟩))
    go_ret
    exact ⟨rfl, ⟨_, rfl⟩⟩
end Go.Proofs.Ytplnaannfnhhgaa.K
