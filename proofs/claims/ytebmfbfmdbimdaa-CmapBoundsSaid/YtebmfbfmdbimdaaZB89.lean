/- Numbers of two bytes, many in a row, walked. slices.BinarySearch of whole numbers, walked. Package cmap, whatever the bytes: the glyph that a subtable of form 4 gives, a function of the bytes alone (CmapBounds). A region that draws its order: reads, and one operation of another kind at its end: the reads walked cheaply. -/
import Derived.Test.YtebmfbfmdbimdaaZC12
import Derived.Test.YtebmfbfmdbimdaaBase
import Derived.StillTailTactics
import Derived.BigQuiet
namespace Go.Proofs.Ytebmfbfmdbimdaa.F
open Go.RowKit Go.Proofs.YtebmfbfmdbimdaaW.PrintWords Go.Proofs.YtebmfbfmdbimdaaW.PrintLast Go.Proofs.YtebmfbfmdbimdaaW.PrintMore
attribute [local go_sem] max2_int min2_int max_two min_two max_three min_three max_four min_four
set_option linter.unusedVariables false
set_option linter.unusedSimpArgs false
theorem infoI : (Try.prog.info? 3).map (fun i => (i.zero, i.size, i.bytes)) = some (some (.int .i64 0), 1, 8) := by kernel_rfl
def u16s_T8 : Bool × List (List Nat × List Nat) := (true, [([], []), ([], []), ([], []), ([1, 2], [1, 2]), ([3], [3]), ([4], [4]), ([5], [5]), ([], []), ([], []), ([8], [8]), ([7, 9], [7, 9]), ([10], [10]), ([11], [11]), ([6, 12], [6, 12]), ([13], [13]), ([0, 14], [0, 14]), ([15, 15, 0, 1, 2, 3, 4, 5, 6, 7, 8, 9, 10, 11, 12, 13, 14, 15], [0, 15])])
def u16s_B8 : List Nat := [0, 0, 0, 6, 14, 30, 62, 0, 0, 256, 896, 1920, 3968, 8190, 16382, 32767, 65535]
theorem u16s_tab8 : rtab .any (opsOf Try.f70 8) = u16s_T8 := by kernel_rfl
theorem u16s_bits8 : waitsOk u16s_T8.2 u16s_B8 = true := by kernel_rfl
theorem or16 (a b : Int) (ha : 0 ≤ a ∧ a ≤ 255) (hb : 0 ≤ b ∧ b ≤ 255) : Go.bits .or .i64 (wrap64 ((wrap64 a) * 256)) (wrap64 b) = a * 256 + b := by
  have e : wrap64 a = a := by unfold wrap64; omega
  rw [e]
  exact or_i64 a b ⟨ha.1, by omega⟩ hb
theorem rd_mem {l : List Int} {x : Int} (h0 : 0 ≤ x) (h : x < l.length) : rd l x ∈ l := by
  unfold rd
  rw [List.getD_eq_getElem?_getD, List.getElem?_eq_getElem (by omega)]
  exact List.getElem_mem (by omega)
set_option maxRecDepth 100000 in
set_option maxHeartbeats 4000000 in
theorem u16s_calls (p : Nat) (A : Option Addr) (c : Nat) (l : List Int) (at_ n : Int) (w : World) (h : View w p A c l) (hb : ∀ z ∈ l, 0 ≤ z ∧ z ≤ 255) (hn : 0 ≤ n ∧ n ≤ 65535) :
    Calls Try.prog 70 #[.pointer (some ⟨p, 0, none⟩), .int .i64 at_, .int .i64 n] w fun e w' => ∃ (v : Value) (xs : List Int) (E : Int), e = .returned (.tuple #[v, .int .i64 E]) ∧ Kd.R (Kd.int .i64) 3 w' w.heap.size (fun _ => True) v xs ∧
      (∀ z ∈ xs, 0 ≤ z ∧ z ≤ 65535) ∧ ((E = 0 ∧ (xs.length : Int) = n) ∨ E = 21) ∧ Below w.heap.size w w' := by
  have HV := Aside0.mk h
  have hc := h.cell
  have HP := Aside0.mk (peek_part.calls p A c l at_ (2 * n))
  have hL : ∀ z ∈ partL l at_ (2 * n), 0 ≤ z ∧ z ≤ 255 := fun z hz => hb z (part_mem hz)
  have hE : (partE l at_ (2 * n) = 0 ∧ ((partL l at_ (2 * n)).length : Int) = 2 * n) ∨ (partE l at_ (2 * n) = 21 ∧ partL l at_ (2 * n) = []) := by
    by_cases hp : partOk l at_ (2 * n)
    · left
      refine ⟨by unfold partE; rw [if_pos hp], ?_⟩
      rw [partL_length hp]
      omega
    · right
      unfold partE partL
      rw [if_neg hp, if_neg hp]
      exact ⟨rfl, rfl⟩
  generalize partL l at_ (2 * n) = L at *
  generalize partE l at_ (2 * n) = E at *
  have HL := Aside0.mk hL
  have HE := Aside0.mk hE
  have HN := Aside0.mk hn
  have n0 : decide (n < 0) = false := decide_eq_false (by omega)
  have W2 : Aside0 (wrap64 (2 * n) = 2 * n) := ⟨by unfold wrap64; omega⟩
  clear hL hE hb h hn
  by_cases hlen : (l.length : Int) < n
  · have hlb : decide ((l.length : Int) < n) = true := decide_eq_true hlen
    clear hlen
    go_enter Try.func70, Try.ntmps70
    go_wp2
    go_ret2
    exact ⟨_, [], 21, rfl, Kd.R_nil _ _ _ _ _, by simp, .inr rfl, Below.refl _ _⟩
  · have hlb : decide ((l.length : Int) < n) = false := decide_eq_false hlen
    clear hlen
    go_enter Try.func70, Try.ntmps70
    go_wp2_with (first | (go_at_call 83; (try rw [W2.out]); (with_reducible refine (HP.out _ HV.out).mono ?_); rintro e w' ⟨B, d, rfl, hC, hd, rfl⟩; have HR0 := Aside0.mk hC; clear hC))
    clear HV HP
    have HBS : Aside0 (Below w'.heap.size w' w') := ⟨Below.refl _ _⟩
    go_loopw [10, 11] (fun v10 v11 wr => ∃ (x10_2 : List Int) (x11_2 : Int), v11 = .int .i64 x11_2 ∧ Aside0 (x11_2 = 2 * x10_2.length ∧ x11_2 ≤ L.length) ∧ Aside0 (∀ z ∈ x10_2, 0 ≤ z ∧ z ≤ 65535) ∧ Aside0 (Kd.R (Kd.int .i64) 3 wr w'.heap.size (fun _ => True) v10 x10_2) ∧ Aside0 (Below w'.heap.size w' wr)) (fun _ v11 _ => L.length - (intOf v11).toNat)
    case atStart => exact ⟨[], 0, rfl, ⟨by simp⟩, ⟨by simp⟩, ⟨Kd.R_nil _ _ _ _ _⟩, ⟨Below.refl _ _⟩⟩
    case round =>
      obtain ⟨x10_2, x11_2, rfl, HI, HA, HO_10, HB⟩ := hrel
      have hLL : L.length ≤ 131070 := by
        have h1 := HE.out
        have h2 := HN.out
        rcases h1 with ⟨_, h1⟩ | ⟨_, h1⟩
        · omega
        · rw [h1]; decide
      have hw1 : wrap64 (x11_2 + 1) = x11_2 + 1 := by
        have := HI.out
        unfold wrap64
        omega
      by_cases c7 : x11_2 + 1 < (L.length : Int)
      · have HOR := Aside0.mk (or16 (rd L x11_2) (rd L (wrap64 (x11_2 + 1))) (HL.out _ (rd_mem (by have := HI.out; omega) (by omega))) (HL.out _ (by rw [hw1]; exact rd_mem (by have := HI.out; omega) (by omega))))
        have HM1 := Aside0.mk (HL.out _ (rd_mem (l := L) (x := x11_2) (by have := HI.out; omega) (by omega)))
        have HM2 : Aside0 (0 ≤ rd L (wrap64 (x11_2 + 1)) ∧ rd L (wrap64 (x11_2 + 1)) ≤ 255) := ⟨HL.out _ (by rw [hw1]; exact rd_mem (by have := HI.out; omega) (by omega))⟩
        have c7b0 : decide (wrap64 (x11_2 + 1) < (L.length : Int)) = true := decide_eq_true (by omega)
        have c8b0 : decide (0 ≤ x11_2) = true := decide_eq_true (by have := HI.out; omega)
        have c9b0 : decide (x11_2 < (L.length : Int)) = true := decide_eq_true (by omega)
        have c11b0 : decide (0 ≤ wrap64 (x11_2 + 1)) = true := decide_eq_true (by have := HI.out; omega)
        have LMc12 : Aside0 (x10_2.length < 17592186044416) := ⟨by have := HI.out; omega⟩
        have W22 : Aside0 (wrap64 (x11_2 + 2) = x11_2 + 2) := ⟨by have := HI.out; unfold wrap64; omega⟩
        have HC7 := Aside0.mk c7
        clear c7 hw1 hLL
        obtain ⟨ji10, hji10⟩ : ∃ j_ : Int, (wrap64 (x11_2 + 1)) = j_ := ⟨_, rfl⟩
        rw [hji10] at c7b0 c11b0 HOR HM2
        have hji10w : (IntKind.i64.wrap (x11_2 + 1)) = ji10 := (i64_w _).trans hji10
        obtain ⟨y103, hy103⟩ : ∃ y_ : List Int, y_ = (x10_2 ++ [Go.bits .or .i64 (wrap64 ((wrap64 (rd L x11_2)) * 256)) (wrap64 (rd L (ji10)))]) := ⟨_, rfl⟩
        have Ny103 := Aside0.mk hy103
        clear hy103
        try go_wp2
        have n0_ := Aside0.mk (Kd.R_drew HO_10.out)
        have n1_ := Aside0.mk (below_drew1 HB.out)
        clear HO_10
        clear HB
        have HO_10 := n0_
        have HB := n1_
        clear n0_ n1_
        have p101 : 0 ≤ (x11_2 : Int) := of_decide_eq_true (by first | (with_reducible assumption) | assumption)
        have q101 : x11_2 < (L.length : Int) := of_decide_eq_true (by first | (with_reducible assumption) | assumption)
        obtain ⟨ad101, e101, hx101_0⟩ := Kd.at_int HR0.out x11_2 p101 q101
        have hw101_0 := hx101_0
        cases e101
        replace hx101_0 := (HB.out.cell (World.block_lt_of_cell? w' _ hx101_0)).trans hx101_0
        replace p101 := eq_true p101
        replace q101 := eq_true q101
        have p102 : 0 ≤ ((ji10) : Int) := of_decide_eq_true (by first | (with_reducible assumption) | assumption)
        have q102 : (ji10) < (L.length : Int) := of_decide_eq_true (by first | (with_reducible assumption) | assumption)
        obtain ⟨ad102, e102, hx102_0⟩ := Kd.at_int HR0.out (ji10) p102 q102
        have hw102_0 := hx102_0
        obtain rfl : ad101 = ad102 := (by injection e102)
        replace hx102_0 := (HB.out.cell (World.block_lt_of_cell? w' _ hx102_0)).trans hx102_0
        replace p102 := eq_true p102
        replace q102 := eq_true q102
        refine start_ (n := 17) (S := fun wz => wz.cell? (ad101.add (x11_2).toNat) = some (.int .u8 (rd L x11_2)) ∧ wz.cell? (ad101.add ((ji10)).toNat) = some (.int .u8 (rd L (ji10)))) (ds := []) #[false, false, false, false, false, false, false, false, false, false, false, false, false, false, false, false, false] (by kernel_rfl) rfl rfl ⟨((HB.out.cell (World.block_lt_of_cell? w' _ hw101_0)).trans hw101_0), ((HB.out.cell (World.block_lt_of_cell? w' _ hw102_0)).trans hw102_0)⟩ (fun hHeld => ?_); refine with_tabW u16s_tab8 u16s_bits8 (fun HT_ HW_ => ?_)
        generalize wr.drew = w13 at HO_10 HB hx101_0 hx102_0 hHeld ⊢
        refine pure_ (i := 0) (N := some 38) (v := ?_) (a' := ?_) #[true, false, false, false, false, false, false, false, false, false, false, false, false, false, false, false, false] rfl rfl (any_of HT_.out (by kernel_rfl)) (fun _ _ _ h => h) (Or.inl ⟨by rfl, ?_⟩) ?_ ?_
        rotate_left
        · intro wz
          go_simp
          with_reducible rfl
        rotate_left
        · simp only [Act.put, List.setIfInBounds_toArray, List.set_cons_zero, List.set_cons_succ, i64_w, i32_w]
          rfl
        refine pure_ (i := 1) (N := some 39) (v := ?_) (a' := ?_) #[true, true, false, false, false, false, false, false, false, false, false, false, false, false, false, false, false] rfl rfl (any_of HT_.out (by kernel_rfl)) (fun _ _ _ h => h) (Or.inl ⟨by rfl, ?_⟩) ?_ ?_
        rotate_left
        · intro wz
          go_simp
          with_reducible rfl
        rotate_left
        · simp only [Act.put, List.setIfInBounds_toArray, List.set_cons_zero, List.set_cons_succ, i64_w, i32_w]
          rfl
        refine pure_ (i := 2) (N := some 40) (v := ?_) (a' := ?_) #[true, true, true, false, false, false, false, false, false, false, false, false, false, false, false, false, false] rfl rfl (any_of HT_.out (by kernel_rfl)) (fun _ _ _ h => h) (Or.inl ⟨by rfl, ?_⟩) ?_ ?_
        rotate_left
        · intro wz
          go_simp
          with_reducible rfl
        rotate_left
        · simp only [Act.put, List.setIfInBounds_toArray, List.set_cons_zero, List.set_cons_succ, i64_w, i32_w]
          rfl
        refine pure_ (i := 3) (N := some 41) (v := ?_) (a' := ?_) #[true, true, true, true, false, false, false, false, false, false, false, false, false, false, false, false, false] rfl rfl (any_of HT_.out (by kernel_rfl)) (fun _ _ _ h => h) (Or.inl ⟨by rfl, ?_⟩) ?_ ?_
        rotate_left
        · intro wz
          go_simp
          with_reducible rfl
        rotate_left
        · simp only [Act.put, List.setIfInBounds_toArray, List.set_cons_zero, List.set_cons_succ, i64_w, i32_w]
          rfl
        refine pure_ (i := 7) (N := some 45) (v := ?_) (a' := ?_) #[true, true, true, true, false, false, false, true, false, false, false, false, false, false, false, false, false] rfl rfl (any_of HT_.out (by kernel_rfl)) (fun _ _ _ h => h) (Or.inl ⟨by rfl, ?_⟩) ?_ ?_
        rotate_left
        · intro wz
          go_simp
          with_reducible rfl
        rotate_left
        · simp only [Act.put, List.setIfInBounds_toArray, List.set_cons_zero, List.set_cons_succ, i64_w, i32_w]
          rfl
        refine pure_ (i := 8) (N := some 46) (v := ?_) (a' := ?_) #[true, true, true, true, false, false, false, true, true, false, false, false, false, false, false, false, false] rfl rfl (any_of HT_.out (by kernel_rfl)) (fun _ _ _ h => h) (Or.inl ⟨by rfl, ?_⟩) ?_ ?_
        rotate_left
        · intro wz
          go_simp
          with_reducible rfl
        rotate_left
        · simp only [Act.put, List.setIfInBounds_toArray, List.set_cons_zero, List.set_cons_succ, i64_w, i32_w]
          rfl
        refine pure_ (i := 9) (N := some 47) (v := ?_) (a' := ?_) #[true, true, true, true, false, false, false, true, true, true, false, false, false, false, false, false, false] rfl rfl (any_of HT_.out (by kernel_rfl)) (fun _ _ _ h => h) (Or.inl ⟨by rfl, ?_⟩) ?_ ?_
        rotate_left
        · intro wz
          go_simp
          with_reducible rfl
        rotate_left
        · simp only [Act.put, List.setIfInBounds_toArray, List.set_cons_zero, List.set_cons_succ, i64_w, i32_w]
          rfl
        refine pure_ (i := 10) (N := some 48) (v := ?_) (a' := ?_) #[true, true, true, true, false, false, false, true, true, true, true, false, false, false, false, false, false] rfl rfl (any_of HT_.out (by kernel_rfl)) (fun _ _ _ h => h) (Or.inl ⟨by rfl, ?_⟩) ?_ ?_
        rotate_left
        · intro wz
          go_simp
          with_reducible rfl
        rotate_left
        · simp only [Act.put, List.setIfInBounds_toArray, List.set_cons_zero, List.set_cons_succ, i64_w, i32_w]
          rfl
        refine take_ (i := 4) (N := some 42) (v := ?_) (a' := ?_) #[true, true, true, true, true, false, false, true, true, true, true, false, false, false, false, false, false] rfl rfl (take_ofW HT_.out HW_.out (by kernel_rfl)) (fun _ _ _ h => h) (Or.inl ⟨by rfl, ?_⟩) hHeld ?_ ?_
        rotate_left
        · rintro wz ⟨s0, s1⟩
          go_simp
          with_reducible rfl
        rotate_left
        · simp only [Act.put, List.setIfInBounds_toArray, List.set_cons_zero, List.set_cons_succ, i64_w, i32_w]
          rfl
        refine pure_ (i := 5) (N := some 43) (v := ?_) (a' := ?_) #[true, true, true, true, true, true, false, true, true, true, true, false, false, false, false, false, false] rfl rfl (any_of HT_.out (by kernel_rfl)) (fun _ _ _ h => h) (Or.inl ⟨by rfl, ?_⟩) ?_ ?_
        rotate_left
        · intro wz
          go_simp
          with_reducible rfl
        rotate_left
        · simp only [Act.put, List.setIfInBounds_toArray, List.set_cons_zero, List.set_cons_succ, i64_w, i32_w]
          rfl
        refine pure_ (i := 6) (N := some 44) (v := ?_) (a' := ?_) #[true, true, true, true, true, true, true, true, true, true, true, false, false, false, false, false, false] rfl rfl (any_of HT_.out (by kernel_rfl)) (fun _ _ _ h => h) (Or.inl ⟨by rfl, ?_⟩) ?_ ?_
        rotate_left
        · intro wz
          go_simp
          with_reducible rfl
        rotate_left
        · simp only [Act.put, List.setIfInBounds_toArray, List.set_cons_zero, List.set_cons_succ, i64_w, i32_w]
          rfl
        refine take_ (i := 11) (N := some 49) (v := ?_) (a' := ?_) #[true, true, true, true, true, true, true, true, true, true, true, true, false, false, false, false, false] rfl rfl (take_ofW HT_.out HW_.out (by kernel_rfl)) (fun _ _ _ h => h) (Or.inl ⟨by rfl, ?_⟩) hHeld ?_ ?_
        rotate_left
        · rintro wz ⟨s0, s1⟩
          go_simp
          with_reducible rfl
        rotate_left
        · simp only [Act.put, List.setIfInBounds_toArray, List.set_cons_zero, List.set_cons_succ, i64_w, i32_w]
          rfl
        refine pure_ (i := 12) (N := some 50) (v := ?_) (a' := ?_) #[true, true, true, true, true, true, true, true, true, true, true, true, true, false, false, false, false] rfl rfl (any_of HT_.out (by kernel_rfl)) (fun _ _ _ h => h) (Or.inl ⟨by rfl, ?_⟩) ?_ ?_
        rotate_left
        · intro wz
          go_simp
          with_reducible rfl
        rotate_left
        · simp only [Act.put, List.setIfInBounds_toArray, List.set_cons_zero, List.set_cons_succ, i64_w, i32_w]
          rfl
        refine pure_ (i := 13) (N := some 51) (v := ?_) (a' := ?_) #[true, true, true, true, true, true, true, true, true, true, true, true, true, true, false, false, false] rfl rfl (any_of HT_.out (by kernel_rfl)) (fun _ _ _ h => h) (Or.inl ⟨by rfl, ?_⟩) ?_ ?_
        rotate_left
        · intro wz
          go_simp
          with_reducible rfl
        rotate_left
        · simp only [Act.put, List.setIfInBounds_toArray, List.set_cons_zero, List.set_cons_succ, i64_w, i32_w]
          rfl
        refine one_ (i := 14) (N := some 52) #[true, true, true, true, true, true, true, true, true, true, true, true, true, true, true, false, false] rfl rfl (one_of HT_.out (by kernel_rfl)) (by decide) (fun K hK => ?_)
        refine value_ (w1 := ?_) (v := ?_) (by rfl) rfl ?_ ?_
        rotate_left 2
        · go_simp
          constructor
          · rfl
          · rfl
        refine hK.out _ _ ⟨(World.cell?_alloc_lt _ _ _ (World.block_lt_of_cell? _ _ (((HB.out.cell (World.block_lt_of_cell? w' _ hw101_0)).trans hw101_0)))).trans (((HB.out.cell (World.block_lt_of_cell? w' _ hw101_0)).trans hw101_0)), (World.cell?_alloc_lt _ _ _ (World.block_lt_of_cell? _ _ (((HB.out.cell (World.block_lt_of_cell? w' _ hw102_0)).trans hw102_0)))).trans (((HB.out.cell (World.block_lt_of_cell? w' _ hw102_0)).trans hw102_0))⟩ (fun hHeld => ?_)
        clear hK K
        refine norm_ (a' := ?_) ?_ ?_
        rotate_left
        · show Act.put _ (some 52) _ = _
          simp only [Act.put, List.setIfInBounds_toArray, List.set_cons_zero, List.set_cons_succ, i64_w, i32_w]
          rfl
        refine one_ (i := 15) (N := some 53) #[true, true, true, true, true, true, true, true, true, true, true, true, true, true, true, true, false] rfl rfl (one_of HT_.out (by kernel_rfl)) (by decide) (fun K hK => ?_)
        refine Kd.R_append_step (Kd.int .i64) (w0 := w') w'.heap.size (by rfl) (.tmp 38) (.tmp 52) 47 3 (.int .i64 0) 8 rfl Try.underlying47 infoI rfl (by decide) (by omega) u10 x10_2 (Go.bits .or .i64 (wrap64 ((wrap64 (rd L x11_2)) * 256)) (wrap64 (rd L (ji10)))) [.int .i64 (Go.bits .or .i64 (wrap64 ((wrap64 (rd L x11_2)) * 256)) (wrap64 (rd L (ji10))))] (fun _ => True) (fun _ => False) rfl rfl ?aP (fun _ hk => hk.elim) ?aF ?aO ?aB ?aS ?aL ?_
        (case aP => exact rfl)
        (case aB => exact (by repeat (first | (with_reducible first | exact HB.out | apply below_alloc | apply pw_below_drewN | apply below_drew1) | exact HB.out)))
        (case aF => exact (fun _ _ => trivial))
        (case aO => exact (by (with_reducible repeat (first | apply Kd.R_alloc | apply Kd.R_drewN | apply Kd.R_drew)); exact HO_10.out))
        (case aS => exact (below_size (by repeat (first | (with_reducible first | exact HB.out | apply below_alloc | apply pw_below_drewN | apply below_drew1) | exact HB.out))))
        (case aL => have := LMc12.out; omega)
        intro v104 w14 ho hb hg hat
        rw [← Ny103.out] at ho
        have n0_ := Aside0.mk (hb)
        have n1_ := Aside0.mk (ho)
        clear HB
        clear HO_10
        have HB := n0_
        have HO105 := n1_
        clear n0_ n1_
        clear ho hb hg hat
        refine hK.out _ _ ⟨((HB.out.cell (World.block_lt_of_cell? w' _ hw101_0)).trans hw101_0), ((HB.out.cell (World.block_lt_of_cell? w' _ hw102_0)).trans hw102_0)⟩ (fun hHeld => ?_)
        clear hK K
        refine norm_ (a' := ?_) ?_ ?_
        rotate_left
        · show Act.put _ (some 53) _ = _
          simp only [Act.put, List.setIfInBounds_toArray, List.set_cons_zero, List.set_cons_succ, i64_w, i32_w]
          rfl
        refine pure_ (i := 16) (N := some 10) (v := ?_) (a' := ?_) #[true, true, true, true, true, true, true, true, true, true, true, true, true, true, true, true, true] rfl rfl (any_of HT_.out (by kernel_rfl)) (fun _ _ _ h => h) (Or.inl ⟨by rfl, ?_⟩) ?_ ?_
        rotate_left
        · intro wz
          go_simp
          with_reducible rfl
        rotate_left
        · simp only [Act.put, List.setIfInBounds_toArray, List.set_cons_zero, List.set_cons_succ, i64_w, i32_w]
          rfl
        refine done_ (done_of HT_.out (by kernel_rfl)) ?_
        have HY := Ny103.out
        rw [HOR.out] at HY
        try go_wp2
        go_roundw
        case rel =>
          refine ⟨y103, wrap64 (x11_2 + 2), rfl, ⟨?_⟩, ⟨?_⟩, ⟨by (with_reducible repeat (first | apply Kd.R_alloc | apply Kd.R_drewN | apply Kd.R_drew)); exact HO105.out⟩, ⟨by repeat (first | (with_reducible first | exact HB.out | apply below_alloc | apply pw_below_drewN | apply below_drew1) | exact HB.out)⟩⟩
          · rw [W22.out, HY, List.length_append, List.length_singleton]
            have h1 := HI.out
            have h2 := HC7.out
            omega
          · rw [HY]
            intro z hz
            rcases List.mem_append.1 hz with hz | hz
            · exact HA.out z hz
            · obtain rfl : z = _ := by simpa using hz
              have h1 := HM1.out
              have h2 := HM2.out
              omega
        case measure =>
          have h1 := HI.out
          have h2 := HC7.out
          rw [W22.out]
          simp only [intOf]
          omega
      · have c7b0 : decide (wrap64 (x11_2 + 1) < (L.length : Int)) = false := decide_eq_false (by omega)
        have HC7 := Aside0.mk c7
        clear c7 hw1 hLL
        go_wp2
        go_ret2
        refine ⟨_, x10_2, E, rfl, HO_10.out, HA.out, ?_, HB.out⟩
        have h1 := HE.out
        have h2 := HC7.out
        have h3 := HI.out
        rcases h1 with ⟨e1, h1⟩ | ⟨e1, h1⟩
        · exact .inl ⟨e1, by omega⟩
        · exact .inr e1
end Go.Proofs.Ytebmfbfmdbimdaa.F
namespace Go.Proofs.Ytebmfbfmdbimdaa.F
open Go.RowKit Go.Proofs.YtebmfbfmdbimdaaW.PrintWords Go.Proofs.YtebmfbfmdbimdaaW.PrintLast Go.Proofs.YtebmfbfmdbimdaaW.PrintMore
set_option linter.unusedVariables false
set_option linter.unusedSimpArgs false
theorem nan1_calls (x : Int) (w : World) : Calls Try.prog 91 #[.int .i64 x] w fun e w' => e = .returned (.bool false) ∧ w' = w := by
  have hx : (x != x) = false := by simp
  go_enter Try.func91, Try.ntmps91
  go_wp2
  go_ret
  first | exact ⟨rfl, rfl⟩ | simp
theorem nan2_calls (x : Int) (w : World) : Calls Try.prog 90 #[.int .i64 x] w fun e w' => e = .returned (.bool false) ∧ w' = w := by
  have hx : (x != x) = false := by simp
  go_enter Try.func90, Try.ntmps90
  go_wp2
  go_ret
  first | exact ⟨rfl, rfl⟩ | simp
theorem less_calls (x y : Int) (w : World) : Calls Try.prog 89 #[.int .i64 x, .int .i64 y] w fun e w' => e = .returned (.bool (decide (x < y))) ∧ w' = w := by
  go_enter Try.func89, Try.ntmps89
  go_wp2_with (go_at_call 91; (refine (nan1_calls _ _).mono ?_); rintro e w1 ⟨rfl, rfl⟩)
  go_ret
  first | exact ⟨rfl, rfl⟩ | simp
set_option maxRecDepth 100000 in
set_option maxHeartbeats 4000000 in
theorem bsearch_calls (A : Option Addr) (c : Nat) (L : List Int) (x : Int) (w : World) (hR : Kd.C (Kd.int .i64) w A L.length L) (hl : L.length ≤ 65536) (hmono : ∀ a b : Nat, a ≤ b → b < L.length → rd L a ≤ rd L b) :
    Calls Try.prog 85 #[.slice A L.length c, .int .i64 x] w fun e w' => (∃ (i : Nat) (b : Bool), e = .returned (.tuple #[.int .i64 i, .bool b]) ∧ i ≤ L.length ∧ (∀ t : Nat, t < i → rd L t < x) ∧ (∀ t : Nat, i ≤ t → t < L.length → x ≤ rd L t)) ∧ w' = w := by
  have HR := Aside0.mk hR
  have M := Aside0.mk hmono
  clear hR hmono
  go_enter Try.func85, Try.ntmps85
  go_wp2
  go_loopg [7, 8] L.length (fun kx s7 s8 wr => ∃ (lo hi : Nat), s7 = .int .i64 lo ∧ s8 = .int .i64 hi ∧ lo ≤ hi ∧ hi ≤ L.length ∧ hi - lo ≤ kx ∧ wr = w ∧
    Aside0 ((∀ t : Nat, t < lo → rd L t < x) ∧ (∀ t : Nat, hi ≤ t → t < L.length → x ≤ rd L t)))
  case atStart => exact ⟨0, L.length, rfl, rfl, Nat.zero_le _, Nat.le_refl _, by omega, rfl, ⟨fun t ht => absurd ht (Nat.not_lt_zero _), fun t h1 h2 => by omega⟩⟩
  case round =>
    obtain ⟨lo, hi, rfl, rfl, hlh, hin, hg, rfl, I⟩ := hrel
    by_cases hlt : lo < hi
    · obtain ⟨ad, eA, hx⟩ := Kd.at_int HR.out (((lo : Int) + (hi : Int)) / 2) (by omega) (by omega)
      subst eA
      rw [show (((lo : Int) + (hi : Int)) / 2).toNat = (lo + hi) / 2 by omega] at hx
      have p0 : (0 : Int) ≤ ((lo : Int) + (hi : Int)) / 2 := by omega
      have p1 : ((lo : Int) + (hi : Int)) / 2 < L.length := by omega
      have em : ((((lo + hi) / 2 : Nat)) : Int) = ((lo : Int) + (hi : Int)) / 2 := by omega
      have HV := Aside0.mk (congrArg (rd L) em)
      generalize rd L (((lo : Int) + (hi : Int)) / 2) = y at *
      have hd : decide (y < x) = true ∨ decide (y < x) = false := by cases decide (y < x) <;> simp
      clear em
      rcases hd with hd | hd
      · go_wp2_with (go_at_call 89; (refine (less_calls _ _ _).mono ?_); rintro e w1 ⟨rfl, rfl⟩)
        go_roundg (hi - ((lo + hi) / 2 + 1))
        case measure => omega
        case rel =>
          refine ⟨(lo + hi) / 2 + 1, hi, by rw [show ((lo : Int) + (hi : Int)) / 2 + 1 = (((lo + hi) / 2 + 1 : Nat) : Int) by omega], rfl, by omega, hin, Nat.le_refl _, by first | rfl | trivial, ⟨fun t ht => ?_, I.out.2⟩⟩
          have h1 := M.out t ((lo + hi) / 2) (by omega) (by omega)
          rw [HV.out] at h1
          have := of_decide_eq_true hd
          omega
      · go_wp2_with (go_at_call 89; (refine (less_calls _ _ _).mono ?_); rintro e w1 ⟨rfl, rfl⟩)
        go_roundg ((lo + hi) / 2 - lo)
        case measure => omega
        case rel =>
          refine ⟨lo, (lo + hi) / 2, rfl, by rw [show ((lo : Int) + (hi : Int)) / 2 = (((lo + hi) / 2 : Nat) : Int) by omega], by omega, by omega, Nat.le_refl _, by first | rfl | trivial, ⟨I.out.1, fun t ht htn => ?_⟩⟩
          have h1 := M.out ((lo + hi) / 2) t ht htn
          rw [HV.out] at h1
          have := of_decide_eq_false hd
          omega
    · obtain rfl : hi = lo := by omega
      by_cases hn : hi < L.length
      · obtain ⟨ad, eA, hx⟩ := Kd.at_int HR.out (hi : Int) (by omega) (by omega)
        subst eA
        rw [Int.toNat_natCast] at hx
        have p0 : (0 : Int) ≤ hi := by omega
        have p1 : (hi : Int) < L.length := by omega
        have hd : decide ((hi : Int) < (L.length : Int)) = true := decide_eq_true (by omega)
        generalize hy : rd L (hi : Int) = y at *
        clear hy
        have he : (y == x) = true ∨ (y == x) = false := by cases (y == x) <;> simp
        rcases he with he | he
        all_goals
          go_wp2_with (go_at_call 90; (refine (nan2_calls _ _).mono ?_); rintro e w1 ⟨rfl, rfl⟩)
          go_ret2
          exact ⟨⟨hi, _, rfl, hin, I.out.1, I.out.2⟩, rfl⟩
      · have hd : decide ((hi : Int) < (L.length : Int)) = false := decide_eq_false (by omega)
        go_wp2
        go_ret2
        exact ⟨⟨hi, _, rfl, hin, I.out.1, I.out.2⟩, rfl⟩
end Go.Proofs.Ytebmfbfmdbimdaa.F
namespace Go.Proofs.Ytebmfbfmdbimdaa.F
open Go.RowKit Go.Proofs.YtebmfbfmdbimdaaW.PrintWords Go.Proofs.YtebmfbfmdbimdaaW.PrintLast Go.Proofs.YtebmfbfmdbimdaaW.PrintMore
set_option linter.unusedVariables false
set_option linter.unusedSimpArgs false
/-- What the closure of form 4 finds: the reader, the four rows. -/
structure Seg (W : World) (m be bn bs bo br bd : Nat) (p : Nat) (A : Option Addr) (c : Nat) (l E S O D : List Int) : Prop where
  view : View W p A c l
  rd : W.heap[br]? = some (.cells #[.pointer (some ⟨p, 0, none⟩)] 114 (0, 0))
  cnt : W.heap[bn]? = some (.cells #[.int .i64 (E.length : Int)] 3 (0, 0))
  ends : ∃ (A1 : Option Addr) (c1 : Nat), W.heap[be]? = some (.cells #[.slice A1 E.length c1] 47 (0, 0)) ∧ Kd.C (Kd.int .i64) W A1 E.length E ∧ ∀ ad, A1 = some ad → m < ad.block
  starts : ∃ (A1 : Option Addr) (c1 : Nat), W.heap[bs]? = some (.cells #[.slice A1 S.length c1] 47 (0, 0)) ∧ Kd.C (Kd.int .i64) W A1 S.length S ∧ ∀ ad, A1 = some ad → m < ad.block
  offs : ∃ (A1 : Option Addr) (c1 : Nat), W.heap[bo]? = some (.cells #[.slice A1 O.length c1] 47 (0, 0)) ∧ Kd.C (Kd.int .i64) W A1 O.length O ∧ ∀ ad, A1 = some ad → m < ad.block
  delts : ∃ (A1 : Option Addr) (c1 : Nat), W.heap[bd]? = some (.cells #[.slice A1 D.length c1] 47 (0, 0)) ∧ Kd.C (Kd.int .i64) W A1 D.length D ∧ ∀ ad, A1 = some ad → m < ad.block
/-- What is known of the four rows. -/
structure SegL (l E S O D : List Int) : Prop where
  byte : ∀ z ∈ l, 0 ≤ z ∧ z ≤ 255
  few : E.length ≤ 4096
  ls : S.length = E.length
  lo : O.length = E.length
  ld : D.length = E.length
  up : ∀ a b : Nat, a ≤ b → b < E.length → rd E a ≤ rd E b
  num : (∀ z ∈ S, 0 ≤ z ∧ z ≤ 65535) ∧ (∀ z ∈ O, 0 ≤ z ∧ z ≤ 65535) ∧ (∀ z ∈ D, 0 ≤ z ∧ z ≤ 65535)
theorem place_of (E : List Int) (x : Int) (h : ∀ a b : Nat, a ≤ b → b < E.length → rd E a ≤ rd E b) : ∃ i : Nat, i ≤ E.length ∧ (∀ t : Nat, t < i → rd E t < x) ∧ (∀ t : Nat, i ≤ t → t < E.length → x ≤ rd E t) := by
  have key : ∀ n : Nat, n ≤ E.length → ∃ i : Nat, i ≤ n ∧ (∀ t : Nat, t < i → rd E t < x) ∧ (∀ t : Nat, i ≤ t → t < n → x ≤ rd E t) := by
    intro n
    induction n with
    | zero => exact fun _ => ⟨0, Nat.le_refl _, fun t ht => by omega, fun t _ ht => by omega⟩
    | succ n ih =>
      intro hn
      obtain ⟨i, hi, h1, h2⟩ := ih (by omega)
      by_cases hin : i = n
      · by_cases hx : rd E n < x
        · exact ⟨n + 1, Nat.le_refl _, fun t ht => by
            by_cases htn : t = n
            · rw [htn]; exact hx
            · exact h1 t (by omega), fun t ht1 ht2 => by omega⟩
        · exact ⟨n, by omega, fun t ht => h1 t (by omega), fun t ht1 ht2 => by
            obtain rfl : t = n := by omega
            omega⟩
      · refine ⟨i, by omega, h1, fun t ht1 ht2 => ?_⟩
        by_cases htn : t < n
        · exact h2 t ht1 htn
        · have := h2 i (Nat.le_refl _) (by omega)
          have := h i t ht1 (by omega)
          omega
  exact key E.length (Nat.le_refl _)
theorem place_one {E : List Int} {x : Int} {i j : Nat} (hi : i ≤ E.length) (hi1 : ∀ t : Nat, t < i → rd E t < x) (hi2 : ∀ t : Nat, i ≤ t → t < E.length → x ≤ rd E t) (hj : j ≤ E.length) (hj1 : ∀ t : Nat, t < j → rd E t < x) (hj2 : ∀ t : Nat, j ≤ t → t < E.length → x ≤ rd E t) : i = j := by
  by_cases h1 : i < j
  · have := hj1 i h1
    have := hi2 i (Nat.le_refl _) (by omega)
    omega
  · by_cases h2 : j < i
    · have := hi1 j h2
      have := hj2 j (Nat.le_refl _) (by omega)
      omega
    · omega
theorem and16 (x : Int) : 0 ≤ bits .and .i64 x 65535 ∧ bits .and .i64 x 65535 ≤ 65535 := by
  have e : bits .and .i64 x 65535 = IntKind.i64.wrap ((BitVec.ofInt 64 x &&& BitVec.ofInt 64 65535).toNat : Int) := rfl
  have h : (BitVec.ofInt 64 x &&& BitVec.ofInt 64 65535).toNat ≤ 65535 := by
    rw [BitVec.toNat_and]
    exact Nat.le_trans Nat.and_le_right (by decide)
  rw [e, IntKind.wrap_i64]
  omega
theorem wrap_in (x : Int) (h : -4611686018427387904 ≤ x ∧ x ≤ 4611686018427387904) : IntKind.i64.wrap x = x := by
  rw [IntKind.wrap_i64]
  omega
theorem place_wrap (n i o code y : Int) (hn : 0 ≤ n ∧ n ≤ 4096) (hi : 0 ≤ i ∧ i ≤ 4096) (ho : 0 ≤ o ∧ o ≤ 65535) (hc : 0 ≤ code ∧ code ≤ 1114111) (hy : 0 ≤ y ∧ y ≤ 65535) :
    IntKind.i64.wrap (IntKind.i64.wrap (IntKind.i64.wrap (IntKind.i64.wrap (16 + IntKind.i64.wrap (6 * n)) + IntKind.i64.wrap (2 * i)) + o) + IntKind.i64.wrap (2 * IntKind.i64.wrap (code - y))) = 16 + 6 * n + 2 * i + o + 2 * (code - y) := by
  rw [wrap_in (6 * n) (by omega), wrap_in (2 * i) (by omega), wrap_in (code - y) (by omega), wrap_in (16 + 6 * n) (by omega), wrap_in (2 * (code - y)) (by omega), wrap_in (16 + 6 * n + 2 * i) (by omega), wrap_in (16 + 6 * n + 2 * i + o) (by omega), wrap_in _ (by omega)]
/-- The closure's frame behind the search. -/
def OneAt (be bn bs bo br bd : Nat) (code v : Int) (W : World) : Prop := Calls Try.prog 84 (#[.int .i64 code] ++ #[.pointer (some ⟨be, 0, none⟩), .pointer (some ⟨bn, 0, none⟩), .pointer (some ⟨bs, 0, none⟩), .pointer (some ⟨bo, 0, none⟩), .pointer (some ⟨br, 0, none⟩), .pointer (some ⟨bd, 0, none⟩)]) W fun e w' => e = .returned (.int .i64 v) ∧ Below W.heap.size W w'
section
variable {l E S O D : List Int} {code : Int} {i : Nat}
set_option maxRecDepth 100000 in
set_option maxHeartbeats 4000000 in
theorem one_out (L : SegL l E S O D) (h1 : ∀ t : Nat, t < E.length → rd E t < code) (W : World) (m be bn bs bo br bd p : Nat) (A : Option Addr) (c : Nat) (s : Seg W m be bn bs bo br bd p A c l E S O D) : OneAt be bn bs bo br bd code 0 W := by
  obtain ⟨A1, k1, be1, hE, _⟩ := s.ends
  have HB := Aside0.mk (bsearch_calls A1 k1 E code W hE (by have := L.few; omega) L.up)
  have H1 := Aside0.mk h1
  have e1 := (blk_cell be1 0).trans rfl
  have e2 := (blk_cell s.cnt 0).trans rfl
  clear be1 hE s L h1
  unfold OneAt
  go_enter Try.func84, Try.ntmps84
  go_wp2_with (go_at_call 85; (with_reducible refine HB.out.mono ?_); rintro e w1 ⟨⟨i, b, rfl, hi, hlo, hhi⟩, rfl⟩; obtain rfl := place_one hi hlo hhi (Nat.le_refl _) H1.out (fun t ht1 ht2 => by omega); clear hi hlo hhi)
  go_ret
  exact ⟨rfl, Below.refl _ _⟩
set_option maxRecDepth 100000 in
set_option maxHeartbeats 4000000 in
theorem one_ahead (L : SegL l E S O D) (hi : i < E.length) (h1 : ∀ t : Nat, t < i → rd E t < code) (h2 : ∀ t : Nat, i ≤ t → t < E.length → code ≤ rd E t) (h3 : code < rd S i) (W : World) (m be bn bs bo br bd p : Nat) (A : Option Addr) (c : Nat) (s : Seg W m be bn bs bo br bd p A c l E S O D) : OneAt be bn bs bo br bd code 0 W := by
  obtain ⟨A1, k1, be1, hE, _⟩ := s.ends
  obtain ⟨A2, k2, be2, hS, _⟩ := s.starts
  have HB := Aside0.mk (bsearch_calls A1 k1 E code W hE (by have := L.few; omega) L.up)
  have H1 := Aside0.mk (And.intro h1 h2)
  have e1 := (blk_cell be1 0).trans rfl
  have e2 := (blk_cell s.cnt 0).trans rfl
  have e3 := (blk_cell be2 0).trans rfl
  obtain ⟨ad, rfl, hx⟩ := Kd.at_int hS (i : Int) (by omega) (by have := L.ls; omega)
  rw [Int.toNat_natCast] at hx
  have p0 : (0 : Int) ≤ i := by omega
  have p1 : (i : Int) < S.length := by have := L.ls; omega
  have q : ((i : Int) == (E.length : Int)) = false := by rw [beq_eq_false_iff_ne]; omega
  generalize rd S (i : Int) = y at *
  have hd : decide (code < y) = true := decide_eq_true h3
  clear be1 be2 hE hS s L h1 h2 h3
  unfold OneAt
  go_enter Try.func84, Try.ntmps84
  go_wp2_with (go_at_call 85; (with_reducible refine HB.out.mono ?_); rintro e w1 ⟨⟨j, b, rfl, hj, hlo, hhi⟩, rfl⟩; obtain rfl := place_one hj hlo hhi (Nat.le_of_lt hi) H1.out.1 H1.out.2; clear hj hlo hhi)
  go_ret
  exact ⟨rfl, Below.refl _ _⟩
set_option maxRecDepth 100000 in
set_option maxHeartbeats 4000000 in
theorem one_plain (L : SegL l E S O D) (hc : 0 ≤ code ∧ code ≤ 1114111) (hi : i < E.length) (h1 : ∀ t : Nat, t < i → rd E t < code) (h2 : ∀ t : Nat, i ≤ t → t < E.length → code ≤ rd E t) (h3 : ¬ code < rd S i) (h4 : rd O i = 0) (W : World) (m be bn bs bo br bd p : Nat) (A : Option Addr) (c : Nat) (s : Seg W m be bn bs bo br bd p A c l E S O D) : OneAt be bn bs bo br bd code (bits .and .i64 (code + rd D i) 65535) W := by
  obtain ⟨A1, k1, be1, hE, _⟩ := s.ends
  obtain ⟨A2, k2, be2, hS, _⟩ := s.starts
  obtain ⟨A3, k3, be3, hO, _⟩ := s.offs
  obtain ⟨A4, k4, be4, hD, _⟩ := s.delts
  have HB := Aside0.mk (bsearch_calls A1 k1 E code W hE (by have := L.few; omega) L.up)
  have H1 := Aside0.mk (And.intro h1 h2)
  have e1 := (blk_cell be1 0).trans rfl
  have e2 := (blk_cell s.cnt 0).trans rfl
  have e3 := (blk_cell be2 0).trans rfl
  have e4 := (blk_cell be3 0).trans rfl
  have e5 := (blk_cell be4 0).trans rfl
  obtain ⟨ad, rfl, hx⟩ := Kd.at_int hS (i : Int) (by omega) (by have := L.ls; omega)
  obtain ⟨ad3, rfl, hx3⟩ := Kd.at_int hO (i : Int) (by omega) (by have := L.lo; omega)
  obtain ⟨ad4, rfl, hx4⟩ := Kd.at_int hD (i : Int) (by omega) (by have := L.ld; omega)
  rw [Int.toNat_natCast] at hx hx3 hx4
  have p0 : (0 : Int) ≤ i := by omega
  have p1 : (i : Int) < S.length := by have := L.ls; omega
  have p3 : (i : Int) < O.length := by have := L.lo; omega
  have p4 : (i : Int) < D.length := by have := L.ld; omega
  have q : ((i : Int) == (E.length : Int)) = false := by rw [beq_eq_false_iff_ne]; omega
  have hdd := L.num.2.2 _ (rd_mem p0 p4)
  rw [h4] at hx3
  generalize rd S (i : Int) = y at *
  generalize rd D (i : Int) = d at *
  have hd : decide (code < y) = false := decide_eq_false h3
  clear be1 be2 be3 be4 hE hS hO hD s L h1 h2 h3 h4
  unfold OneAt
  go_enter Try.func84, Try.ntmps84
  go_wp2_with (go_at_call 85; (with_reducible refine HB.out.mono ?_); rintro e w1 ⟨⟨j, b, rfl, hj, hlo, hhi⟩, rfl⟩; obtain rfl := place_one hj hlo hhi (Nat.le_of_lt hi) H1.out.1 H1.out.2; clear hj hlo hhi)
  go_ret
  exact ⟨rfl, Below.refl _ _⟩
set_option maxRecDepth 100000 in
set_option maxHeartbeats 4000000 in
theorem one_place (L : SegL l E S O D) (hc : 0 ≤ code ∧ code ≤ 1114111) (hi : i < E.length) (h1 : ∀ t : Nat, t < i → rd E t < code) (h2 : ∀ t : Nat, i ≤ t → t < E.length → code ≤ rd E t) (h3 : ¬ code < rd S i) (h4 : rd O i ≠ 0) (h5 : num l (16 + 6 * E.length + 2 * i + rd O i + 2 * (code - rd S i)) 2 ≠ 0) (W : World) (m be bn bs bo br bd p : Nat) (A : Option Addr) (c : Nat) (s : Seg W m be bn bs bo br bd p A c l E S O D) : OneAt be bn bs bo br bd code (bits .and .i64 (num l (16 + 6 * E.length + 2 * i + rd O i + 2 * (code - rd S i)) 2 + rd D i) 65535) W := by
  obtain ⟨A1, k1, be1, hE, _⟩ := s.ends
  obtain ⟨A2, k2, be2, hS, _⟩ := s.starts
  obtain ⟨A3, k3, be3, hO, _⟩ := s.offs
  obtain ⟨A4, k4, be4, hD, _⟩ := s.delts
  have HB := Aside0.mk (bsearch_calls A1 k1 E code W hE (by have := L.few; omega) L.up)
  have H1 := Aside0.mk (And.intro h1 h2)
  have e1 := (blk_cell be1 0).trans rfl
  have e2 := (blk_cell s.cnt 0).trans rfl
  have e3 := (blk_cell be2 0).trans rfl
  have e4 := (blk_cell be3 0).trans rfl
  have e5 := (blk_cell be4 0).trans rfl
  obtain ⟨ad, rfl, hx⟩ := Kd.at_int hS (i : Int) (by omega) (by have := L.ls; omega)
  obtain ⟨ad3, rfl, hx3⟩ := Kd.at_int hO (i : Int) (by omega) (by have := L.lo; omega)
  obtain ⟨ad4, rfl, hx4⟩ := Kd.at_int hD (i : Int) (by omega) (by have := L.ld; omega)
  rw [Int.toNat_natCast] at hx hx3 hx4
  have p0 : (0 : Int) ≤ i := by omega
  have p1 : (i : Int) < S.length := by have := L.ls; omega
  have p3 : (i : Int) < O.length := by have := L.lo; omega
  have p4 : (i : Int) < D.length := by have := L.ld; omega
  have q : ((i : Int) == (E.length : Int)) = false := by rw [beq_eq_false_iff_ne]; omega
  have hdd := L.num.2.2 _ (rd_mem p0 p4)
  have hoo := L.num.2.1 _ (rd_mem p0 p3)
  have hss := L.num.1 _ (rd_mem p0 p1)
  have hfew := L.few
  have hcr := (blk_cell s.rd 0).trans rfl
  have HV := Aside0.mk s.view
  have HU := Aside0.mk (fun (W : World) (hv : View W p A c l) => peek_U16.calls p A c l (16 + 6 * E.length + 2 * i + rd O i + 2 * (code - rd S i)) W hv L.byte)
  have hnb := num_bound (l := l) (at_ := 16 + 6 * E.length + 2 * i + rd O i + 2 * (code - rd S i)) (n := 2) L.byte (by decide)
  generalize rd S (i : Int) = y at *
  generalize rd D (i : Int) = d at *
  generalize rd O (i : Int) = o at *
  generalize hg : num l (16 + 6 * E.length + 2 * i + o + 2 * (code - y)) 2 = g at *
  generalize partE l (16 + 6 * E.length + 2 * i + o + 2 * (code - y)) 2 = pe at *
  have WP : Aside0 (IntKind.i64.wrap (IntKind.i64.wrap (IntKind.i64.wrap (IntKind.i64.wrap (16 + IntKind.i64.wrap (6 * (E.length : Int))) + IntKind.i64.wrap (2 * (i : Int))) + o) + IntKind.i64.wrap (2 * IntKind.i64.wrap (code - y))) = 16 + 6 * E.length + 2 * i + o + 2 * (code - y)) := ⟨place_wrap _ _ _ _ _ (by omega) (by omega) (by omega) (by omega) (by omega)⟩
  have q4 : (o != 0) = true := by rw [bne_iff_ne]; exact h4
  have q5 : (g == 0) = false := by rw [beq_eq_false_iff_ne]; exact h5
  have HG := Aside0.mk hg
  have hd : decide (code < y) = false := decide_eq_false h3
  clear be1 be2 be3 be4 hE hS hO hD s L h1 h2 h3 h4 h5 hg
  unfold OneAt
  go_enter Try.func84, Try.ntmps84
  go_wp2_with (go_at_call 85; (with_reducible refine HB.out.mono ?_); rintro e w1 ⟨⟨j, b, rfl, hj, hlo, hhi⟩, rfl⟩; obtain rfl := place_one hj hlo hhi (Nat.le_of_lt hi) H1.out.1 H1.out.2; clear hj hlo hhi)
  go_quiet ((go_at_call 80; rw [WP.out]; exact Calls.quiet_of_same (HU.out _ (HV.out.below (pw_below_drewN (Below.refl _ _) _)))))
  go_wp2_with fail
  go_ret
  exact ⟨rfl, pw_below_drewN (Below.refl _ _) _⟩
set_option maxRecDepth 100000 in
set_option maxHeartbeats 4000000 in
theorem one_zero (L : SegL l E S O D) (hc : 0 ≤ code ∧ code ≤ 1114111) (hi : i < E.length) (h1 : ∀ t : Nat, t < i → rd E t < code) (h2 : ∀ t : Nat, i ≤ t → t < E.length → code ≤ rd E t) (h3 : ¬ code < rd S i) (h4 : rd O i ≠ 0) (h5 : num l (16 + 6 * E.length + 2 * i + rd O i + 2 * (code - rd S i)) 2 = 0) (W : World) (m be bn bs bo br bd p : Nat) (A : Option Addr) (c : Nat) (s : Seg W m be bn bs bo br bd p A c l E S O D) : OneAt be bn bs bo br bd code 0 W := by
  obtain ⟨A1, k1, be1, hE, _⟩ := s.ends
  obtain ⟨A2, k2, be2, hS, _⟩ := s.starts
  obtain ⟨A3, k3, be3, hO, _⟩ := s.offs
  obtain ⟨A4, k4, be4, hD, _⟩ := s.delts
  have HB := Aside0.mk (bsearch_calls A1 k1 E code W hE (by have := L.few; omega) L.up)
  have H1 := Aside0.mk (And.intro h1 h2)
  have e1 := (blk_cell be1 0).trans rfl
  have e2 := (blk_cell s.cnt 0).trans rfl
  have e3 := (blk_cell be2 0).trans rfl
  have e4 := (blk_cell be3 0).trans rfl
  have e5 := (blk_cell be4 0).trans rfl
  obtain ⟨ad, rfl, hx⟩ := Kd.at_int hS (i : Int) (by omega) (by have := L.ls; omega)
  obtain ⟨ad3, rfl, hx3⟩ := Kd.at_int hO (i : Int) (by omega) (by have := L.lo; omega)
  obtain ⟨ad4, rfl, hx4⟩ := Kd.at_int hD (i : Int) (by omega) (by have := L.ld; omega)
  rw [Int.toNat_natCast] at hx hx3 hx4
  have p0 : (0 : Int) ≤ i := by omega
  have p1 : (i : Int) < S.length := by have := L.ls; omega
  have p3 : (i : Int) < O.length := by have := L.lo; omega
  have p4 : (i : Int) < D.length := by have := L.ld; omega
  have q : ((i : Int) == (E.length : Int)) = false := by rw [beq_eq_false_iff_ne]; omega
  have hdd := L.num.2.2 _ (rd_mem p0 p4)
  have hoo := L.num.2.1 _ (rd_mem p0 p3)
  have hss := L.num.1 _ (rd_mem p0 p1)
  have hfew := L.few
  have hcr := (blk_cell s.rd 0).trans rfl
  have HV := Aside0.mk s.view
  have HU := Aside0.mk (fun (W : World) (hv : View W p A c l) => peek_U16.calls p A c l (16 + 6 * E.length + 2 * i + rd O i + 2 * (code - rd S i)) W hv L.byte)
  have hnb := num_bound (l := l) (at_ := 16 + 6 * E.length + 2 * i + rd O i + 2 * (code - rd S i)) (n := 2) L.byte (by decide)
  generalize rd S (i : Int) = y at *
  generalize rd D (i : Int) = d at *
  generalize rd O (i : Int) = o at *
  generalize hg : num l (16 + 6 * E.length + 2 * i + o + 2 * (code - y)) 2 = g at *
  generalize partE l (16 + 6 * E.length + 2 * i + o + 2 * (code - y)) 2 = pe at *
  have WP : Aside0 (IntKind.i64.wrap (IntKind.i64.wrap (IntKind.i64.wrap (IntKind.i64.wrap (16 + IntKind.i64.wrap (6 * (E.length : Int))) + IntKind.i64.wrap (2 * (i : Int))) + o) + IntKind.i64.wrap (2 * IntKind.i64.wrap (code - y))) = 16 + 6 * E.length + 2 * i + o + 2 * (code - y)) := ⟨place_wrap _ _ _ _ _ (by omega) (by omega) (by omega) (by omega) (by omega)⟩
  have q4 : (o != 0) = true := by rw [bne_iff_ne]; exact h4
  have q5 : (g == 0) = true := by rw [beq_iff_eq]; exact h5
  have HG := Aside0.mk hg
  have hd : decide (code < y) = false := decide_eq_false h3
  clear be1 be2 be3 be4 hE hS hO hD s L h1 h2 h3 h4 h5 hg
  unfold OneAt
  go_enter Try.func84, Try.ntmps84
  go_wp2_with (go_at_call 85; (with_reducible refine HB.out.mono ?_); rintro e w1 ⟨⟨j, b, rfl, hj, hlo, hhi⟩, rfl⟩; obtain rfl := place_one hj hlo hhi (Nat.le_of_lt hi) H1.out.1 H1.out.2; clear hj hlo hhi)
  go_quiet ((go_at_call 80; rw [WP.out]; exact Calls.quiet_of_same (HU.out _ (HV.out.below (pw_below_drewN (Below.refl _ _) _)))))
  go_wp2_with fail
  go_ret
  exact ⟨rfl, pw_below_drewN (Below.refl _ _) _⟩
/-- The glyph of a code, whatever the world: a number of two bytes. -/
theorem one_ex (L : SegL l E S O D) (code : Int) (hc : 0 ≤ code ∧ code ≤ 1114111) : ∃ v : Int, 0 ≤ v ∧ v ≤ 65535 ∧ ∀ (W : World) (m be bn bs bo br bd p : Nat) (A : Option Addr) (c : Nat), Seg W m be bn bs bo br bd p A c l E S O D → OneAt be bn bs bo br bd code v W := by
  obtain ⟨i, hi, h1, h2⟩ := place_of E code L.up
  by_cases hin : i = E.length
  · subst hin
    exact ⟨0, by decide, by decide, fun W m be bn bs bo br bd p A c s => one_out L h1 W m be bn bs bo br bd p A c s⟩
  · have hlt : i < E.length := by omega
    by_cases h3 : code < rd S i
    · exact ⟨0, by decide, by decide, fun W m be bn bs bo br bd p A c s => one_ahead L hlt h1 h2 h3 W m be bn bs bo br bd p A c s⟩
    · by_cases h4 : rd O i = 0
      · exact ⟨_, (and16 _).1, (and16 _).2, fun W m be bn bs bo br bd p A c s => one_plain L hc hlt h1 h2 h3 h4 W m be bn bs bo br bd p A c s⟩
      · by_cases h5 : num l (16 + 6 * E.length + 2 * i + rd O i + 2 * (code - rd S i)) 2 = 0
        · exact ⟨0, by decide, by decide, fun W m be bn bs bo br bd p A c s => one_zero L hc hlt h1 h2 h3 h4 h5 W m be bn bs bo br bd p A c s⟩
        · exact ⟨_, (and16 _).1, (and16 _).2, fun W m be bn bs bo br bd p A c s => one_place L hc hlt h1 h2 h3 h4 h5 W m be bn bs bo br bd p A c s⟩
end
end Go.Proofs.Ytebmfbfmdbimdaa.F
namespace Go.Proofs.Ytebmfbfmdbimdaa.F
theorem quiet_still {P : Program} {ops : Array Oper} {W : World} {Q : Act → Prop} : ∀ (l : List Oper) (a : Act), wpQuiet P ops (fun w' => w' = W) Q l a → wpStill P ops W Q l a
  | [], a, h => h
  | o :: l, a, h => by
    unfold wpQuiet at h
    unfold wpStill
    split at h
    · rename_i hw
      rw [if_pos hw]
      obtain ⟨v, h1, h2⟩ := h
      have h3 := h1 W rfl
      have h4 := quiet_still l _ h2
      unfold Oper.quietAt Oper.quietUpon at h3
      unfold Oper.still Oper.stillUpon
      split at h3
      · rename_i he
        rw [he]
        obtain ⟨e1, e2⟩ := h3
        subst e1 e2
        exact ⟨rfl, h4⟩
      · rename_i he
        rw [he]
        obtain ⟨e1, e2⟩ := h3
        subst e1 e2
        exact ⟨rfl, h4⟩
      · rename_i he
        rw [he]
        obtain ⟨e1, e2⟩ := h3
        subst e1
        exact ⟨rfl, v, e2, h4⟩
      · exact h3.elim
    · rename_i hw
      rw [if_neg hw]
      exact quiet_still l _ h
theorem wp_region_quiet_tail {P : Program} {id : Nat} {Q : Exit → Act → World → Prop} {a : Act} {w : World} {l : List Oper} (n : Nat) (hm : P.follows .mixedOrders = true) (hB : Region.lexTailB .any l.toArray n = true)
    (h : wpQuiet P l.toArray (fun w' => w' = w.drew) (fun a' => wpList P l.toArray Q (l.drop n) a' w.drew) (l.take n) a) : (Code.region id l.toArray true).wp P Q a w :=
  wp_region_still_tail n hm hB (quiet_still _ _ h)
end Go.Proofs.Ytebmfbfmdbimdaa.F
