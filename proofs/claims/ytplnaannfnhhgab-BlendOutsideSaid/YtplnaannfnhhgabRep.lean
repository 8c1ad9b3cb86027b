/- bytes.Repeat of one byte: a row that holds it so often. -/
import Derived.Test.YtplnaannfnhhgabBase
import Derived.Test.YtplnaannfnhhgabLx1
import Derived.Lib.SlBuf
import Derived.Lib.MakeNoZero
namespace Go.Proofs.Ytplnaannfnhhgab.F
open Go.Proofs.Ytplnaannfnhhgab.L
open Go.RowKit Go.Proofs.YtplnaannfnhhgabW.PrintWords Go.Proofs.YtplnaannfnhhgabW.PrintLast Go.Proofs.YtplnaannfnhhgabW.PrintMore
attribute [local go_sem] max2_int min2_int max_two min_two max_three min_three max_four min_four
set_option linter.unusedVariables false
set_option linter.unusedSimpArgs false
theorem u64w (x : Int) (h0 : 0 ≤ x) (h1 : x < 18446744073709551616) : IntKind.u64.wrap x = x := by
  have : IntKind.u64.wrap x = x % 18446744073709551616 := by simp [IntKind.wrap, IntKind.bits, IntKind.signed]
  rw [this]
  omega
theorem mask32 (x : Int) (h0 : 0 ≤ x) (h1 : x < 4294967296) : Go.bits .and .u64 x 4294967295 = x := by
  have := bits_mask .u64 32 (by decide) (fun n h0 h1 => u64w n h0 (by omega)) 32 (by decide) x h0 h1
  rw [show ((2 : Int) ^ 32 - 1) = 4294967295 by decide] at this
  rw [this]
  omega
theorem mul_one_f (n : Int) (h0 : 0 ≤ n) (h1 : n < 4294967296) : bits_Mul.f 1 n = some (0, n) := by
  have e1 : n / 4294967296 = 0 := by omega
  have e2 : (1 : Int) / 4294967296 = 0 := by decide
  have e3 : (0 : Int) / 4294967296 = 0 := by decide
  have w0 : IntKind.u64.wrap 0 = 0 := u64w 0 (by decide) (by decide)
  have wn : IntKind.u64.wrap n = n := u64w n h0 (by omega)
  have mn := mask32 n h0 h1
  have m1 := mask32 1 (by decide) (by decide)
  have m0 := mask32 0 (by decide) (by decide)
  simp only [bits_Mul.f, bits_Mul64.f, mn, m1, e1, e2, e3, Int.zero_mul, Int.mul_zero, Int.one_mul, Option.bind_some, w0, wn, m0, Int.add_zero, Int.zero_add]
/-- A buffer of N cells, the first m of which hold v. -/
structure Rb (w0 wr : World) (h N m : Nat) (v : Value) : Prop where
  below : Below h w0 wr
  there : ∀ j, j < N → (wr.cell? ⟨h, j, none⟩).isSome = true
  free : ∀ j, j < N → wr.frozen? ⟨h, j, none⟩ = false
  holds : ∀ j, j < m → wr.cell? ⟨h, j, none⟩ = some v
theorem rb_copy {P : Program} (w0 wr : World) (h N m c : Nat) (v : Value) (a : Addr) (sLen sCap dCap : Nat) (t ty e : TypeId) (hu : P.underlying t = some (.slice e)) (hs : (P.info? e).map (·.size) = some 1)
    (hb : Rb w0 wr h N m v) (hv : v.oneCell' = true) (hc : c = Nat.min sLen (N - m)) (hm : m ≤ N) (hsrc : ∀ j, j < c → wr.cell? (a.add j) = some v) :
    ∃ wr', (Builtin.copy_ #[t, t] ty #[.slice (some ⟨h, m, none⟩) (N - m) dCap, .slice (some a) sLen sCap]).run P wr = .ok (.int .i64 (c : Int)) wr' ∧ Rb w0 wr' h N (m + c) v := by
  have hcl : c ≤ N - m := by rw [hc]; exact Nat.min_le_right _ _
  have hl : (List.replicate c v).length = c := List.length_replicate
  have hr := run_copy_cells (P := P) wr t t ty e h m (N - m) dCap a sLen sCap (List.replicate c v) hu hs (by rw [hl]; exact hc)
    (fun j u hj => by
      obtain ⟨h1, h2⟩ := List.getElem?_eq_some_iff.1 hj
      rw [List.getElem_replicate] at h2
      subst h2
      exact hsrc j (by rw [hl] at h1; exact h1))
    (fun j hj => by rw [hl] at hj; exact hb.there _ (by omega)) (fun j hj => by rw [hl] at hj; exact hb.free _ (by omega))
    (fun u hu' => by rw [List.mem_replicate] at hu'; rw [hu'.2]; exact hv)
  rw [hl] at hr
  refine ⟨_, hr, ?_⟩
  have hin := World.cell?_setCells_in h (List.replicate c v) m wr (fun j hj => by rw [hl] at hj; exact hb.there _ (by omega))
  have hout := World.cell?_setCells_out h (List.replicate c v) m wr
  refine ⟨Lib.below_setCells h (Nat.le_refl _) _ _ hb.below, fun j hj => ?_, fun j hj => ?_, fun j hj => ?_⟩
  · by_cases h1 : m ≤ j ∧ j < m + c
    · obtain ⟨d, rfl⟩ : ∃ d, j = m + d := ⟨j - m, by omega⟩
      rw [hin d (by rw [hl]; omega)]
      rfl
    · rw [hout ⟨h, j, none⟩ (fun _ _ => by rw [hl]; show j < _ ∨ _ ≤ j; omega)]
      exact hb.there j hj
  · rw [World.frozen?_setCells]
    exact hb.free j hj
  · by_cases h1 : m ≤ j
    · obtain ⟨d, rfl⟩ : ∃ d, j = m + d := ⟨j - m, by omega⟩
      rw [hin d (by rw [hl]; omega), List.getElem_replicate]
    · rw [hout ⟨h, j, none⟩ (fun _ _ => by show j < _ ∨ _ ≤ j; omega)]
      exact hb.holds j (by omega)
theorem Rb.drew {w0 wr : World} {h N m : Nat} {v : Value} (hb : Rb w0 wr h N m v) : Rb w0 wr.drew h N m v := ⟨hb.below.drew, hb.there, hb.free, hb.holds⟩
theorem step_copy_run {P : Program} {ops : Array Oper} {o : Oper} {a : Act} {w : World} {K : Act → World → Prop} {Q : Exit → Act → World → Prop} {E : Prop}
    (hg : o.guard = none) (d x : Operand) (dT sT : TypeId) (hop : o.op = Op.call { callee := Callee.builtin Builtin.copy, args := #[d, x], argTypes := #[dT, sT] })
    (vd vx : Value) (hd : a.eval d = vd) (hx : a.eval x = vx) {v : Value} {w1 : World} (hrun : (Builtin.copy_ #[dT, sT] o.type #[vd, vx]).run P w = .ok v w1) (hK : K (a.put o.dst v) w1) :
    if Region.wanted o (yielded ops a.tmps) = true then Oper.wp P o a w K Q else E := by
  have hw : Region.wanted o (yielded ops a.tmps) = true := by simp [Region.wanted, hg]
  rw [if_pos hw]
  unfold Oper.wp
  simp [execOp, hop, resolve, invoke, builtin, hd, hx, hrun, Result.andThen]
  exact hK
theorem rb_start (w : World) (cs : Array Value) (e : TypeId) (N q : Nat) (v : Value) (hN : N ≤ cs.size) : Rb w ((w.alloc (.cells cs e)).drewN q) w.heap.size N 0 v := by
  have := Lib.Buf.start w cs e N q hN
  exact ⟨this.below, this.there, this.free, fun j hj => absurd hj (Nat.not_lt_zero _)⟩
/-- The whole buffer, told as a row that is only read. -/
theorem rb_V {w0 wr : World} {B h N cap : Nat} {b : Int} (hb : Rb w0 wr h N N (.int .u8 b)) (hh : B ≤ h) (hc : N ≤ cap) (hN : N ≤ 9223372036854775807) :
    Kd.V (Kd.int .u8) 5 wr B (fun k_ => B ≤ k_) (.slice (some ⟨h, 0, none⟩) N cap) (List.replicate N b) := by
  refine ⟨some ⟨h, 0, none⟩, cap, by rw [List.length_replicate], by rw [List.length_replicate]; exact hc, ?_⟩
  rw [List.length_replicate]
  intro W' hW
  refine ⟨List.length_replicate, hN, fun hn => ⟨⟨h, 0, none⟩, rfl, fun j p hj => ?_⟩⟩
  obtain ⟨h1, h2⟩ := List.getElem?_eq_some_iff.1 hj
  rw [List.length_replicate] at h1
  rw [List.getElem_replicate] at h2
  subst h2
  refine ⟨[.int .u8 b], rfl, rfl, fun i u hu => ?_⟩
  have hi : i = 0 := by
    have := (List.getElem?_eq_some_iff.1 hu).1
    simp only [List.length_cons, List.length_nil] at this
    omega
  subst hi
  have hu' : u = .int .u8 b := by simpa using hu.symm
  subst hu'
  have hcell := hb.holds j h1
  have hlt : h < wr.heap.size := World.block_lt_of_cell? wr _ hcell
  have hw := hW h hh hlt
  have e : (⟨h, 0, none⟩ : Addr).add (j * (Kd.int .u8).sz + 0) = ⟨h, j, none⟩ := by
    rw [show (Kd.int .u8).sz = 1 from rfl, Nat.mul_one, Nat.add_zero]
    simp [Addr.add]
    exact fun h => h.symm
  rw [e]
  unfold World.cell? at hcell ⊢
  simp only at hcell ⊢
  rw [hw]
  exact hcell
def bytes_Repeat.f (l0 : List Int) (a1 : Int) : Option (List Int) := if l0.length = 1 ∧ 1 ≤ a1 ∧ a1 ≤ 1048576 then some (List.replicate a1.toNat (rd l0 0)) else none
set_option maxRecDepth 100000 in
set_option maxHeartbeats 8000000 in
theorem bytes_Repeat.calls (A0 : Option Addr) (c0 : Nat) (l0 : List Int) (a1 : Int) (r : List Int) (w : World) (hr0 : Kd.C (Kd.int .u8) w A0 l0.length l0) (hc0 : l0.length ≤ c0) (h : bytes_Repeat.f l0 a1 = some r) :
    Calls Try.prog 62 #[.slice A0 l0.length c0, .int .i64 a1] w fun e w' => ∃ v0_ : Value, e = .returned v0_ ∧ Kd.V (Kd.int .u8) 5 w' w.heap.size (fun k_ => w.heap.size ≤ k_) v0_ r ∧ Below w.heap.size w w' := by
  unfold bytes_Repeat.f at h
  by_cases hh : l0.length = 1 ∧ 1 ≤ a1 ∧ a1 ≤ 1048576
  · rw [if_pos hh] at h
    obtain ⟨h1, h2, h3⟩ := hh
    obtain rfl := Option.some.inj h
    clear h
    obtain ⟨ad, rfl, hcell⟩ := Kd.at_int hr0 0 (by omega) (by omega)
    clear hr0
    obtain ⟨n, rfl⟩ : ∃ n : Nat, a1 = (n : Int) := ⟨a1.toNat, by omega⟩
    generalize rd l0 0 = b at *
    rw [h1] at hc0 ⊢
    clear h1
    rw [Int.toNat_natCast]
    have hcell' : w.cell? ad = some (.int .u8 b) := hcell
    clear hcell
    have hs5 : (Try.prog.info? 5).map (·.size) = some 1 := by kernel_rfl
    have n0 : ((n : Int) == 0) = false := by rw [beq_eq_false_iff_ne]; omega
    have n1 : decide ((n : Int) < 0) = false := decide_eq_false (by omega)
    have n2 : decide (9223372036854775807 < (n : Int)) = false := decide_eq_false (by omega)
    have HM := Aside0.mk (mul_one_f (n : Int) (by omega) (by omega))
    by_cases hbig : 8192 < (n : Int)
    · have hb : decide (8192 < (n : Int)) = true := decide_eq_true hbig
      go_enter Try.func62, Try.ntmps62
      go_wp2_with (go_at_call 80; refine (bits_Mul.calls 1 (n : Int) 0 (n : Int) _ HM.out).mono ?_; rintro e w1 ⟨rfl, m, rfl⟩)
      have hwsz : (w.drewN m).heap.size = w.heap.size := by simp
      have hbw : Below w.heap.size w (w.drewN m) := pw_below_drewN (Below.refl _ w) m
      have hcellm : (w.drewN m).cell? ad = some (.int .u8 b) := by rw [World.cell?_drewN]; exact hcell'
      generalize w.drewN m = wm at *
      obtain ⟨cs, hrunM, hle, _⟩ := Lib.run_makeNoZero (P := Try.prog) wm #[3] 30 5 Try.underlying30 n (by omega)
      have hcall : (callFunc 81 #[.int .i64 (n : Int)]).run Try.prog wm = .ok (.value (.slice (some ⟨wm.heap.size, 0, none⟩) n cs.size)) ((wm.alloc (.cells cs 5)).drewN 2) := by
        rw [run_callFunc_extern Try.func81 (by kernel_rfl) (by kernel_rfl) (by kernel_rfl) (e := Extern.BytealgMakeNoZero.makeNoZero #[3] #[30]) (by kernel_rfl), hrunM]
        rfl
      clear hrunM
      have i0 : (0 : Int) ≤ (n : Int) := by omega
      have i1 : (n : Int) ≤ (cs.size : Int) := by omega
      have B0 := rb_start wm cs 5 n 2 (.int .u8 b) hle
      rw [hwsz] at hcall B0
      obtain ⟨w1, hr1, B1⟩ := rb_copy (P := Try.prog) wm _ w.heap.size n 0 1 (.int .u8 b) ad 1 c0 n 30 3 5 Try.underlying30 hs5 B0 rfl (by rw [Nat.sub_zero]; exact (Nat.min_eq_left (by omega)).symm) (by omega) (fun j hj => by
        obtain rfl : j = 0 := by omega
        exact Lib.Below.cellOf B0.below hcellm (by omega))
      rw [Nat.sub_zero] at hr1
      rw [Nat.zero_add] at B1
      have HB1 := Aside0.mk B1
      clear B0 B1 hcellm hcell'
      rw [hcall]
      go_wp2_with (at_builtin; refine Lib.wpList_copy_run _ rfl _ _ 30 30 rfl _ _ rfl rfl hr1 ?_)
      go_loopw [10] (fun s wr => ∃ (bp : Nat), s = .int .i64 bp ∧ 1 ≤ bp ∧ bp ≤ n ∧ Aside0 (Rb wm wr w.heap.size n bp (.int .u8 b))) (fun s _ => n - (intOf s).toNat)
      case atStart => exact ⟨1, rfl, by omega, by omega, HB1⟩
      case round =>
        clear HB1 hr1 hcall
        obtain ⟨bp, rfl, hb1, hbn, HB⟩ := hrel
        by_cases hlt : bp < n
        · have hltb : decide ((bp : Int) < (n : Int)) = true := decide_eq_true (by omega)
          have hs1 : ∀ W, (Instr.slice 30 (.slice (some ⟨w.heap.size, 0, none⟩) n n) (some (.int .i64 (bp : Int))) none none).run Try.prog W = .ok (.slice (some ⟨w.heap.size, bp, none⟩) (n - bp) (n - bp)) W := fun W => by
            rw [Lib.run_slice_tailV W 30 5 Try.underlying30 (fun w => by kernel_rfl) w.heap.size n bp hbn]
            unfold Lib.tailV
            rw [if_neg (by omega)]
          have hs2 : ∀ c : Nat, c ≤ n → ∀ W, (Instr.slice 30 (.slice (some ⟨w.heap.size, 0, none⟩) n n) none (some (.int .i64 (c : Int))) none).run Try.prog W = .ok (.slice (some ⟨w.heap.size, 0, none⟩) c n) W := fun c hc W => by
            have z5 : ∀ w, (Go.sizeOf 5).run Try.prog w = .ok 1 w := fun w => by kernel_rfl
            have hel5 : Try.prog.elem 30 = 5 := by kernel_rfl
            rw [run_slice_h W 30 _ _ _ (by rw [hel5]; exact Try.underlying30) _ _ (by omega) (by omega), hel5, z5]
            by_cases h0 : n = 0
            · omega
            · simp [Result.andThen, sliced, Addr.add, h0]
          have hcp : ∀ c : Nat, c ≤ bp → 1 ≤ c → ∃ k : Nat, 1 ≤ k ∧ bp + k ≤ n ∧ ∃ w2, (Builtin.copy_ #[30, 30] 3 #[.slice (some ⟨w.heap.size, bp, none⟩) (n - bp) (n - bp), .slice (some ⟨w.heap.size, 0, none⟩) c n]).run Try.prog wr.drew = .ok (.int .i64 (k : Int)) w2 ∧ Aside0 (Rb wm w2 w.heap.size n (bp + k) (.int .u8 b)) := fun c hc h1 => by
            obtain ⟨w2, hr2, B2⟩ := rb_copy (P := Try.prog) wm wr.drew w.heap.size n bp (min c (n - bp)) (.int .u8 b) ⟨w.heap.size, 0, none⟩ c n (n - bp) 30 3 5 Try.underlying30 hs5 HB.out.drew rfl rfl (by omega) (fun j hj => by
              have := HB.out.drew.holds j (by omega)
              by_cases hj0 : j = 0
              · subst hj0; exact this
              · simpa [Addr.add, hj0] using this)
            exact ⟨min c (n - bp), by omega, by omega, w2, hr2, .mk B2⟩
          go_wp2
          · skip
            obtain ⟨k, hk1, hk2, w2, hr2, HB2⟩ := hcp 8192 (by omega) (by omega)
            have hs2' : ∀ W, (Instr.slice 30 (.slice (some ⟨w.heap.size, 0, none⟩) n n) none (some (.int .i64 8192)) none).run Try.prog W = .ok (.slice (some ⟨w.heap.size, 0, none⟩) 8192 n) W := hs2 8192 (by omega)
            clear hs2 hcp HB
            have hwr : IntKind.i64.wrap ((bp : Int) + (k : Int)) = (bp : Int) + (k : Int) := by rw [IntKind.wrap_i64]; omega
            go_region_law (refine step_copy_run rfl (.tmp 70) (.tmp 73) 30 30 rfl (.slice (some ⟨w.heap.size, bp, none⟩) (n - bp) (n - bp)) (.slice (some ⟨w.heap.size, 0, none⟩) 8192 n) (by simp [Act.eval, Act.put]) (by simp [Act.eval, Act.put]) hr2 ?_)
            go_wp2
            simp [Act.put, intOf]
            exact ⟨⟨bp + k, by omega, by omega, by omega, HB2⟩, by omega⟩
          · skip
            obtain ⟨k, hk1, hk2, w2, hr2, HB2⟩ := hcp bp (by omega) (by omega)
            have hs2' : ∀ W, (Instr.slice 30 (.slice (some ⟨w.heap.size, 0, none⟩) n n) none (some (.int .i64 (bp : Int))) none).run Try.prog W = .ok (.slice (some ⟨w.heap.size, 0, none⟩) bp n) W := hs2 bp (by omega)
            clear hs2 hcp HB
            have hwr : IntKind.i64.wrap ((bp : Int) + (k : Int)) = (bp : Int) + (k : Int) := by rw [IntKind.wrap_i64]; omega
            go_region_law (refine step_copy_run rfl (.tmp 70) (.tmp 73) 30 30 rfl (.slice (some ⟨w.heap.size, bp, none⟩) (n - bp) (n - bp)) (.slice (some ⟨w.heap.size, 0, none⟩) bp n) (by simp [Act.eval, Act.put]) (by simp [Act.eval, Act.put]) hr2 ?_)
            go_wp2
            simp [Act.put, intOf]
            exact ⟨⟨bp + k, by omega, by omega, by omega, HB2⟩, by omega⟩
        · obtain rfl : bp = n := by omega
          have hltb : decide ((bp : Int) < (bp : Int)) = false := decide_eq_false (by omega)
          go_wp2
          go_ret
          exact ⟨_, rfl, rb_V HB.out (by omega) (Nat.le_refl _) (by omega), Below.trans hbw (HB.out.below)⟩
    · have hb : decide (8192 < (n : Int)) = false := decide_eq_false hbig
      go_enter Try.func62, Try.ntmps62
      go_wp2_with (go_at_call 80; refine (bits_Mul.calls 1 (n : Int) 0 (n : Int) _ HM.out).mono ?_; rintro e w1 ⟨rfl, m, rfl⟩)
      have hwsz : (w.drewN m).heap.size = w.heap.size := by simp
      have hbw : Below w.heap.size w (w.drewN m) := pw_below_drewN (Below.refl _ w) m
      have hcellm : (w.drewN m).cell? ad = some (.int .u8 b) := by rw [World.cell?_drewN]; exact hcell'
      generalize w.drewN m = wm at *
      obtain ⟨cs, hrunM, hle, _⟩ := Lib.run_makeNoZero (P := Try.prog) wm #[3] 30 5 Try.underlying30 n (by omega)
      have hcall : (callFunc 81 #[.int .i64 (n : Int)]).run Try.prog wm = .ok (.value (.slice (some ⟨wm.heap.size, 0, none⟩) n cs.size)) ((wm.alloc (.cells cs 5)).drewN 2) := by
        rw [run_callFunc_extern Try.func81 (by kernel_rfl) (by kernel_rfl) (by kernel_rfl) (e := Extern.BytealgMakeNoZero.makeNoZero #[3] #[30]) (by kernel_rfl), hrunM]
        rfl
      clear hrunM
      have i0 : (0 : Int) ≤ (n : Int) := by omega
      have i1 : (n : Int) ≤ (cs.size : Int) := by omega
      have B0 := rb_start wm cs 5 n 2 (.int .u8 b) hle
      rw [hwsz] at hcall B0
      obtain ⟨w1, hr1, B1⟩ := rb_copy (P := Try.prog) wm _ w.heap.size n 0 1 (.int .u8 b) ad 1 c0 n 30 3 5 Try.underlying30 hs5 B0 rfl (by rw [Nat.sub_zero]; exact (Nat.min_eq_left (by omega)).symm) (by omega) (fun j hj => by
        obtain rfl : j = 0 := by omega
        exact Lib.Below.cellOf B0.below hcellm (by omega))
      rw [Nat.sub_zero] at hr1
      rw [Nat.zero_add] at B1
      have HB1 := Aside0.mk B1
      clear B0 B1 hcellm hcell'
      rw [hcall]
      go_wp2_with (at_builtin; refine Lib.wpList_copy_run _ rfl _ _ 30 30 rfl _ _ rfl rfl hr1 ?_)
      go_loopw [10] (fun s wr => ∃ (bp : Nat), s = .int .i64 bp ∧ 1 ≤ bp ∧ bp ≤ n ∧ Aside0 (Rb wm wr w.heap.size n bp (.int .u8 b))) (fun s _ => n - (intOf s).toNat)
      case atStart => exact ⟨1, rfl, by omega, by omega, HB1⟩
      case round =>
        clear HB1 hr1 hcall
        obtain ⟨bp, rfl, hb1, hbn, HB⟩ := hrel
        by_cases hlt : bp < n
        · have hltb : decide ((bp : Int) < (n : Int)) = true := decide_eq_true (by omega)
          have hs1 : ∀ W, (Instr.slice 30 (.slice (some ⟨w.heap.size, 0, none⟩) n n) (some (.int .i64 (bp : Int))) none none).run Try.prog W = .ok (.slice (some ⟨w.heap.size, bp, none⟩) (n - bp) (n - bp)) W := fun W => by
            rw [Lib.run_slice_tailV W 30 5 Try.underlying30 (fun w => by kernel_rfl) w.heap.size n bp hbn]
            unfold Lib.tailV
            rw [if_neg (by omega)]
          have hs2 : ∀ c : Nat, c ≤ n → ∀ W, (Instr.slice 30 (.slice (some ⟨w.heap.size, 0, none⟩) n n) none (some (.int .i64 (c : Int))) none).run Try.prog W = .ok (.slice (some ⟨w.heap.size, 0, none⟩) c n) W := fun c hc W => by
            have z5 : ∀ w, (Go.sizeOf 5).run Try.prog w = .ok 1 w := fun w => by kernel_rfl
            have hel5 : Try.prog.elem 30 = 5 := by kernel_rfl
            rw [run_slice_h W 30 _ _ _ (by rw [hel5]; exact Try.underlying30) _ _ (by omega) (by omega), hel5, z5]
            by_cases h0 : n = 0
            · omega
            · simp [Result.andThen, sliced, Addr.add, h0]
          have hcp : ∀ c : Nat, c ≤ bp → 1 ≤ c → ∃ k : Nat, 1 ≤ k ∧ bp + k ≤ n ∧ ∃ w2, (Builtin.copy_ #[30, 30] 3 #[.slice (some ⟨w.heap.size, bp, none⟩) (n - bp) (n - bp), .slice (some ⟨w.heap.size, 0, none⟩) c n]).run Try.prog wr.drew = .ok (.int .i64 (k : Int)) w2 ∧ Aside0 (Rb wm w2 w.heap.size n (bp + k) (.int .u8 b)) := fun c hc h1 => by
            obtain ⟨w2, hr2, B2⟩ := rb_copy (P := Try.prog) wm wr.drew w.heap.size n bp (min c (n - bp)) (.int .u8 b) ⟨w.heap.size, 0, none⟩ c n (n - bp) 30 3 5 Try.underlying30 hs5 HB.out.drew rfl rfl (by omega) (fun j hj => by
              have := HB.out.drew.holds j (by omega)
              by_cases hj0 : j = 0
              · subst hj0; exact this
              · simpa [Addr.add, hj0] using this)
            exact ⟨min c (n - bp), by omega, by omega, w2, hr2, .mk B2⟩
          go_wp2
          · skip
            obtain ⟨k, hk1, hk2, w2, hr2, HB2⟩ := hcp bp (by omega) (by omega)
            have hs2' : ∀ W, (Instr.slice 30 (.slice (some ⟨w.heap.size, 0, none⟩) n n) none (some (.int .i64 (bp : Int))) none).run Try.prog W = .ok (.slice (some ⟨w.heap.size, 0, none⟩) bp n) W := hs2 bp (by omega)
            clear hs2 hcp HB
            have hwr : IntKind.i64.wrap ((bp : Int) + (k : Int)) = (bp : Int) + (k : Int) := by rw [IntKind.wrap_i64]; omega
            go_region_law (refine step_copy_run rfl (.tmp 70) (.tmp 73) 30 30 rfl (.slice (some ⟨w.heap.size, bp, none⟩) (n - bp) (n - bp)) (.slice (some ⟨w.heap.size, 0, none⟩) bp n) (by simp [Act.eval, Act.put]) (by simp [Act.eval, Act.put]) hr2 ?_)
            go_wp2
            simp [Act.put, intOf]
            exact ⟨⟨bp + k, by omega, by omega, by omega, HB2⟩, by omega⟩
        · obtain rfl : bp = n := by omega
          have hltb : decide ((bp : Int) < (bp : Int)) = false := decide_eq_false (by omega)
          go_wp2
          go_ret
          exact ⟨_, rfl, rb_V HB.out (by omega) (Nat.le_refl _) (by omega), Below.trans hbw (HB.out.below)⟩
  · rw [if_neg hh] at h
    cases h
end Go.Proofs.Ytplnaannfnhhgab.F
