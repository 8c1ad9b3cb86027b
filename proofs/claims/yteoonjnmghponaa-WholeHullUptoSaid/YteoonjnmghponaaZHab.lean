/- Package path: near, middle, parts and bend in plain numbers: the nearest lies where the number lies. Package path: the curves' points in plain numbers, and the closures that reckon them, walked. Package path: the pen, and (*pen).line, walked. -/
import Derived.Test.YteoonjnmghponaaZHx4
import Derived.Laws.BitsLemmas
import Derived.Test.YteoonjnmghponaaZUb
namespace Go.Proofs.Yteoonjnmghponaa.H
open Go.RowKit Go.Proofs.Yteoonjnmghponaa.F Go.Proofs.YteoonjnmghponaaW.PrintWords Go.Proofs.YteoonjnmghponaaW.PrintLast Go.Proofs.YteoonjnmghponaaW.PrintMore
set_option linter.unusedVariables false
set_option linter.unusedSimpArgs false
theorem u64w (x : Int) (h0 : 0 ≤ x) (h1 : x < 18446744073709551616) : IntKind.u64.wrap x = x := by
  have : IntKind.u64.wrap x = x % 18446744073709551616 := by simp [IntKind.wrap, IntKind.bits, IntKind.signed]
  rw [this]
  omega
theorem mask32 (x : Int) (h0 : 0 ≤ x) (h1 : x < 18446744073709551616) : Go.bits .and .u64 x 4294967295 = x % 4294967296 := by
  have := bits_mask .u64 64 (by decide) (fun n h0 h1 => u64w n h0 (by omega)) 32 (by decide) x h0 h1
  rw [show ((2 : Int) ^ 32 - 1) = 4294967295 by decide] at this
  rw [this]
  rfl
theorem mul64_one (n : Int) (h0 : 0 ≤ n) (h1 : n < 4611686018427387904) : bits_Mul64.f n 1 = some (0, n) := by
  have mn := mask32 n h0 (by omega)
  have m1 : Go.bits .and .u64 1 4294967295 = 1 := mask32 1 (by decide) (by decide)
  have e2 : (1 : Int) / 4294967296 = 0 := by decide
  have x0 : 0 ≤ n % 4294967296 := by omega
  have x1 : n % 4294967296 < 4294967296 := by omega
  have y0 : 0 ≤ n / 4294967296 := by omega
  have y1 : n / 4294967296 < 1073741824 := by omega
  have z0 : IntKind.u64.wrap 0 = 0 := u64w 0 (by decide) (by decide)
  have zr : IntKind.u64.wrap (n % 4294967296) = n % 4294967296 := u64w _ x0 (by omega)
  have hr : n % 4294967296 / 4294967296 = 0 := by omega
  have zq : IntKind.u64.wrap (n / 4294967296) = n / 4294967296 := u64w _ y0 (by omega)
  have hq : n / 4294967296 / 4294967296 = 0 := by omega
  have mq : Go.bits .and .u64 (n / 4294967296) 4294967295 = n / 4294967296 := by
    rw [mask32 _ y0 (by omega)]
    omega
  have zn : IntKind.u64.wrap n = n := u64w n h0 (by omega)
  simp only [bits_Mul64.f, mn, m1, e2, Int.mul_zero, Int.mul_one, z0, zr, hr, Int.add_zero, Int.zero_add, zq, hq, mq, zn]
theorem size_pos (n : Int) (h0 : 0 ≤ n) (h1 : n < 4611686018427387904) : fixed_size.f n = some n := by
  have w := u64w n h0 (by omega)
  simp only [fixed_size.f, w]
  split
  · omega
  · rfl
theorem size_neg (n : Int) (h0 : n < 0) (h1 : -4611686018427387904 < n) : fixed_size.f n = some (-n) := by
  have w : IntKind.u64.wrap n = n + 18446744073709551616 := by
    have : IntKind.u64.wrap n = n % 18446744073709551616 := by simp [IntKind.wrap, IntKind.bits, IntKind.signed]
    rw [this]
    omega
  have w2 : IntKind.u64.wrap (-(n + 18446744073709551616)) = -n := by
    have : IntKind.u64.wrap (-(n + 18446744073709551616)) = (-(n + 18446744073709551616)) % 18446744073709551616 := by simp [IntKind.wrap, IntKind.bits, IntKind.signed]
    rw [this]
    omega
  simp only [fixed_size.f, w, w2]
  split
  · rfl
  · omega
theorem times_one (a n : Int) (hn : fixed_size.f a = some n) (h0 : 0 ≤ n) (h1 : n < 4611686018427387904) : fixed_times.f a 1 = some (0, n, decide (a < 0)) := by
  simp only [fixed_times.f, hn, size_pos 1 (by decide) (by decide), Option.bind_some, mul64_one n h0 h1]
  simp
/-- The nearest of a size, by the parts. -/
theorem quot_ok {n b lo hi : Int} (hb : 0 < b) (h0 : 0 ≤ n) (h1 : lo * b ≤ n) (h2 : n ≤ hi * b) : lo ≤ n / b ∧ n / b ≤ hi ∧ (b - n % b ≤ n % b → n / b + 1 ≤ hi) := by
  have m0 : 0 ≤ n % b := Int.emod_nonneg _ (by omega)
  have m1 : n % b < b := Int.emod_lt_of_pos _ hb
  have m2 := Int.mul_ediv_add_emod n b
  refine ⟨(Int.le_ediv_iff_mul_le hb).2 h1, ?_, fun h => ?_⟩
  · have := (Int.ediv_lt_iff_lt_mul hb (a := n) (b := hi + 1)).2 (by rw [Int.add_mul]; omega)
    omega
  · by_cases c : n / b < hi
    · omega
    · have h3 : hi * b ≤ n / b * b := Int.mul_le_mul_of_nonneg_right (by omega) (by omega)
      rw [Int.mul_comm b (n / b)] at m2
      omega
theorem near_ok {a b : Int} (hb : 0 < b) (hb' : b ≤ 4096) (ha : -4611686018427387904 < a) (ha' : a < 4611686018427387904) {lo hi : Int} (h1 : lo * b ≤ a) (h2 : a ≤ hi * b) (h3 : -2147483647 ≤ lo) (h4 : hi ≤ 2147483647) :
    ∃ q, path_near.f 3 a b = some q ∧ lo ≤ q ∧ q ≤ hi := by
  obtain ⟨n, hn, hn0, hn1, l, u, hl, hu, hu2⟩ : ∃ n, fixed_size.f a = some n ∧ 0 ≤ n ∧ n < 4611686018427387904 ∧ ∃ l u, l * b ≤ n ∧ n ≤ u * b ∧ u ≤ 2147483647 ∧ (if a < 0 then l = -hi ∧ u = -lo else l = lo ∧ u = hi) := by
    by_cases c : a < 0
    · refine ⟨-a, size_neg a c ha, by omega, by omega, -hi, -lo, ?_, ?_, by omega, ?_⟩
      · rw [Int.neg_mul]; omega
      · rw [Int.neg_mul]; omega
      · rw [if_pos c]; exact ⟨rfl, rfl⟩
    · refine ⟨a, size_pos a (by omega) ha', by omega, by omega, lo, hi, h1, h2, h4, ?_⟩
      rw [if_neg c]; exact ⟨rfl, rfl⟩
  obtain ⟨hu3, hif⟩ := hu2
  obtain ⟨k1, k2, k3⟩ := quot_ok hb hn0 hl hu
  have m0 : 0 ≤ n % b := Int.emod_nonneg _ (by omega)
  have m1 : n % b < b := Int.emod_lt_of_pos _ hb
  have q0 : 0 ≤ n / b := Int.ediv_nonneg hn0 (by omega)
  have hD : bits_Div64.f 0 n b = some (n / b, n % b) := by
    unfold bits_Div64.f
    rw [if_pos ⟨rfl, hb, hn0, by omega⟩]
  have hw : IntKind.u64.wrap (b - n % b) = b - n % b := u64w _ (by omega) (by omega)
  have hfin : ∀ q : Int, 0 ≤ q → l ≤ q → q ≤ u → ∃ r, fixed_MulDiv.j2 1 b q 0 n (decide (a < 0)) = some r ∧ lo ≤ r.1 ∧ r.1 ≤ hi := fun q g0 g1 g2 => by
    have hq : wrap64 q = q := by unfold wrap64; omega
    have hq2 : wrap64 (-q) = -q := by unfold wrap64; omega
    have hb2 : decide (b < 0) = false := decide_eq_false (by omega)
    simp only [fixed_MulDiv.j2, hb2]
    rw [if_neg (by omega), hq]
    by_cases c : a < 0
    · rw [if_pos c] at hif
      have hd : decide (a < 0) = true := decide_eq_true c
      rw [hd, hq2]
      exact ⟨_, rfl, by show lo ≤ -q; omega, by show -q ≤ hi; omega⟩
    · rw [if_neg c] at hif
      have hd : decide (a < 0) = false := decide_eq_false c
      rw [hd]
      exact ⟨_, rfl, by show lo ≤ q; omega, by show q ≤ hi; omega⟩
  have hm : ∃ r, fixed_MulDiv.f 3 a 1 b = some r ∧ lo ≤ r.1 ∧ r.1 ≤ hi := by
    simp only [fixed_MulDiv.f, times_one a n hn hn0 hn1, size_pos b (by omega) (by omega), Option.bind_some]
    rw [if_neg (by omega : ¬ b = 0)]
    have hd : decide ((0 : Int) ≥ b) = false := decide_eq_false (by omega)
    simp only [hd, fixed_MulDiv.j0, hD, Option.bind_some, hw]
    rw [if_neg (by simp)]
    by_cases c : n % b ≥ b - n % b
    · rw [if_pos c]
      have k4 := k3 c
      have hd2 : decide (n / b ≤ 2147483647) = true := decide_eq_true (by omega)
      simp only [hd2, fixed_MulDiv.j1, if_true]
      rw [u64w (n / b + 1) (by omega) (by omega)]
      exact hfin _ (by omega) (by omega) k4
    · rw [if_neg c]
      simp only [fixed_MulDiv.j1]
      rw [if_neg (by simp)]
      exact hfin _ q0 k1 k2
  obtain ⟨r, hr, r1, r2⟩ := hm
  exact ⟨r.1, by simp only [path_near.f, hr, Option.bind_some], r1, r2⟩
end Go.Proofs.Yteoonjnmghponaa.H
namespace Go.Proofs.Yteoonjnmghponaa.H
open Go.RowKit Go.Proofs.Yteoonjnmghponaa.F Go.Proofs.YteoonjnmghponaaW.PrintWords Go.Proofs.YteoonjnmghponaaW.PrintLast Go.Proofs.YteoonjnmghponaaW.PrintMore
set_option linter.unusedVariables false
set_option linter.unusedSimpArgs false
theorem mb {x y X Y : Int} (h0 : -X ≤ x) (h1 : x ≤ X) (h2 : 0 ≤ y) (h3 : y ≤ Y) (hX : 0 ≤ X) : -(X * Y) ≤ x * y ∧ x * y ≤ X * Y := by
  have a1 : x * y ≤ X * y := Int.mul_le_mul_of_nonneg_right h1 h2
  have a2 : X * y ≤ X * Y := Int.mul_le_mul_of_nonneg_left h3 hX
  have a3 : -X * y ≤ x * y := Int.mul_le_mul_of_nonneg_right h0 h2
  rw [Int.neg_mul] at a3
  omega
theorem wz {x : Int} (h : -4611686018427387904 ≤ x ∧ x ≤ 4611686018427387904) : IntKind.i64.wrap x = x := IntWalk.i64_in _ (by omega)
theorem nn_ {x y : Int} (hx : 0 ≤ x) (hy : 0 ≤ y) : 0 ≤ x * y := Int.mul_nonneg hx hy
/-- A point of a curve with one control lies where its three points lie. -/
theorem quad_in {a c b i j n lo hi : Int} (hi0 : 0 ≤ i) (hj0 : 0 ≤ j) (hn : i + j = n) (ha : lo ≤ a ∧ a ≤ hi) (hc : lo ≤ c ∧ c ≤ hi) (hb : lo ≤ b ∧ b ≤ hi) :
    lo * (n * n) ≤ a * j * j + 2 * c * i * j + b * i * i ∧ a * j * j + 2 * c * i * j + b * i * i ≤ hi * (n * n) := by
  subst hn
  have p1 := nn_ (nn_ (show 0 ≤ a - lo by omega) hj0) hj0
  have p2 := nn_ (nn_ (show 0 ≤ c - lo by omega) hi0) hj0
  have p3 := nn_ (nn_ (show 0 ≤ b - lo by omega) hi0) hi0
  have q1 := nn_ (nn_ (show 0 ≤ hi - a by omega) hj0) hj0
  have q2 := nn_ (nn_ (show 0 ≤ hi - c by omega) hi0) hj0
  have q3 := nn_ (nn_ (show 0 ≤ hi - b by omega) hi0) hi0
  have e1 : a * j * j + 2 * c * i * j + b * i * i - lo * ((i + j) * (i + j)) = (a - lo) * j * j + 2 * ((c - lo) * i * j) + (b - lo) * i * i := by grind
  have e2 : hi * ((i + j) * (i + j)) - (a * j * j + 2 * c * i * j + b * i * i) = (hi - a) * j * j + 2 * ((hi - c) * i * j) + (hi - b) * i * i := by grind
  omega
theorem cubic_in {a c d b i j n lo hi : Int} (hi0 : 0 ≤ i) (hj0 : 0 ≤ j) (hn : i + j = n) (ha : lo ≤ a ∧ a ≤ hi) (hc : lo ≤ c ∧ c ≤ hi) (hd : lo ≤ d ∧ d ≤ hi) (hb : lo ≤ b ∧ b ≤ hi) :
    lo * (n * n * n) ≤ a * j * j * j + 3 * c * i * j * j + 3 * d * i * i * j + b * i * i * i ∧ a * j * j * j + 3 * c * i * j * j + 3 * d * i * i * j + b * i * i * i ≤ hi * (n * n * n) := by
  subst hn
  have p1 := nn_ (nn_ (nn_ (show 0 ≤ a - lo by omega) hj0) hj0) hj0
  have p2 := nn_ (nn_ (nn_ (show 0 ≤ c - lo by omega) hi0) hj0) hj0
  have p3 := nn_ (nn_ (nn_ (show 0 ≤ d - lo by omega) hi0) hi0) hj0
  have p4 := nn_ (nn_ (nn_ (show 0 ≤ b - lo by omega) hi0) hi0) hi0
  have q1 := nn_ (nn_ (nn_ (show 0 ≤ hi - a by omega) hj0) hj0) hj0
  have q2 := nn_ (nn_ (nn_ (show 0 ≤ hi - c by omega) hi0) hj0) hj0
  have q3 := nn_ (nn_ (nn_ (show 0 ≤ hi - d by omega) hi0) hi0) hj0
  have q4 := nn_ (nn_ (nn_ (show 0 ≤ hi - b by omega) hi0) hi0) hi0
  have e1 : a * j * j * j + 3 * c * i * j * j + 3 * d * i * i * j + b * i * i * i - lo * ((i + j) * (i + j) * (i + j)) = (a - lo) * j * j * j + 3 * ((c - lo) * i * j * j) + 3 * ((d - lo) * i * i * j) + (b - lo) * i * i * i := by grind
  have e2 : hi * ((i + j) * (i + j) * (i + j)) - (a * j * j * j + 3 * c * i * j * j + 3 * d * i * i * j + b * i * i * i) = (hi - a) * j * j * j + 3 * ((hi - c) * i * j * j) + 3 * ((hi - d) * i * i * j) + (hi - b) * i * i * i := by grind
  omega
/-- How many lines stand for a curve. -/
theorem parts_ok (d : Int) : ∃ n, path_parts.f 6 d = some n ∧ 1 ≤ n ∧ n ≤ 16 := by
  have v1 : wrap64 (wrap64 (4 * 1) * 1) = 4 := by unfold wrap64; omega
  have v2 : wrap64 (wrap64 (4 * 2) * 2) = 16 := by unfold wrap64; omega
  have v3 : wrap64 (wrap64 (4 * 4) * 4) = 64 := by unfold wrap64; omega
  have v4 : wrap64 (wrap64 (4 * 8) * 8) = 256 := by unfold wrap64; omega
  have u1 : wrap64 (1 * 2) = 2 := by unfold wrap64; omega
  have u2 : wrap64 (2 * 2) = 4 := by unfold wrap64; omega
  have u3 : wrap64 (4 * 2) = 8 := by unfold wrap64; omega
  have u4 : wrap64 (8 * 2) = 16 := by unfold wrap64; omega
  simp only [path_parts.f, path_parts.l0, v1, u1, v2, u2, v3, u3, v4, u4]
  rw [if_pos (by decide)]
  by_cases c1 : d > 4
  · rw [if_pos c1, if_pos (by decide)]
    by_cases c2 : d > 16
    · rw [if_pos c2, if_pos (by decide)]
      by_cases c3 : d > 64
      · rw [if_pos c3, if_pos (by decide)]
        by_cases c4 : d > 256
        · rw [if_pos c4, if_neg (by decide)]
          exact ⟨_, rfl, by decide, by decide⟩
        · rw [if_neg c4]
          exact ⟨_, rfl, by decide, by decide⟩
      · rw [if_neg c3]
        exact ⟨_, rfl, by decide, by decide⟩
    · rw [if_neg c2]
      exact ⟨_, rfl, by decide, by decide⟩
  · rw [if_neg c1]
    exact ⟨_, rfl, by decide, by decide⟩
theorem size_ok (d : Int) : ∃ n, path_size.f d = some n := ⟨_, rfl⟩
theorem bend_ok (a b c d e f : Int) : ∃ n, path_bend.f a b c d e f = some n := by
  simp only [path_bend.f, path_size.f, Option.bind_some]
  exact ⟨_, rfl⟩
set_option maxHeartbeats 1000000 in
set_option maxRecDepth 100000 in
theorem quadAt_any {W : World} {bj bi bn : Nat} {a c b i j n q : Int} (kj : W.cell? ⟨bj, 0, none⟩ = some (.int .i64 j)) (ki : W.cell? ⟨bi, 0, none⟩ = some (.int .i64 i)) (kn : W.cell? ⟨bn, 0, none⟩ = some (.int .i64 n))
    (ha : -2147483647 ≤ a ∧ a ≤ 2147483647) (hc : -2147483647 ≤ c ∧ c ≤ 2147483647) (hb : -2147483647 ≤ b ∧ b ≤ 2147483647) (hi : 0 ≤ i ∧ i ≤ 16) (hj : 0 ≤ j ∧ j ≤ 16) (hn : 0 ≤ n ∧ n ≤ 16) (hq : path_near.f 3 (a * j * j + 2 * c * i * j + b * i * i) (n * n) = some q) :
    Calls Try.prog 99 #[.int .i64 a, .int .i64 c, .int .i64 b, .pointer (some ⟨bj, 0, none⟩), .pointer (some ⟨bi, 0, none⟩), .pointer (some ⟨bn, 0, none⟩)] W fun e w' => e = .returned (.int .i64 q) ∧ Below W.heap.size W w' := by
  have HQ := Aside0.mk hq
  clear hq
  have m1 := mb (X := 2147483647) (Y := 16) ha.1 ha.2 hj.1 hj.2 (by decide)
  have m2 := mb (X := 2147483647 * 16) (Y := 16) m1.1 m1.2 hj.1 hj.2 (by decide)
  have m4 := mb (x := 2 * c) (X := 4294967294) (Y := 16) (by omega) (by omega) hi.1 hi.2 (by decide)
  have m5 := mb (X := 4294967294 * 16) (Y := 16) m4.1 m4.2 hj.1 hj.2 (by decide)
  have m7 := mb (X := 2147483647) (Y := 16) hb.1 hb.2 hi.1 hi.2 (by decide)
  have m8 := mb (X := 2147483647 * 16) (Y := 16) m7.1 m7.2 hi.1 hi.2 (by decide)
  have m9 := mb (X := 16) (Y := 16) (by omega) hn.2 hn.1 hn.2 (by decide)
  have e1 := wz (x := a * j) (by omega)
  have e2 := wz (x := a * j * j) (by omega)
  have e3 := wz (x := 2 * c) (by omega)
  have e4 := wz (x := 2 * c * i) (by omega)
  have e5 := wz (x := 2 * c * i * j) (by omega)
  have e6 := wz (x := a * j * j + 2 * c * i * j) (by omega)
  have e7 := wz (x := b * i) (by omega)
  have e8 := wz (x := b * i * i) (by omega)
  have e9 := wz (x := a * j * j + 2 * c * i * j + b * i * i) (by omega)
  have e10 := wz (x := n * n) (by omega)
  clear m1 m2 m4 m5 m7 m8 m9 ha hb hc hi hj hn
  go_enter Try.func99, Try.ntmps99
  go_wp2_with (go_at_call 100; ((with_reducible refine Calls.mono (path_near.calls 3 _ _ _ _ HQ.out) ?_); rintro e w1 ⟨rfl, hb1⟩; have HB := Aside0.mk hb1; clear hb1))
  go_ret
  exact ⟨rfl, HB.out⟩
set_option maxHeartbeats 2000000 in
set_option maxRecDepth 100000 in
theorem cubicAt_any {W : World} {bj bi bn : Nat} {a c d b i j n q : Int} (kj : W.cell? ⟨bj, 0, none⟩ = some (.int .i64 j)) (ki : W.cell? ⟨bi, 0, none⟩ = some (.int .i64 i)) (kn : W.cell? ⟨bn, 0, none⟩ = some (.int .i64 n))
    (ha : -2147483647 ≤ a ∧ a ≤ 2147483647) (hc : -2147483647 ≤ c ∧ c ≤ 2147483647) (hd : -2147483647 ≤ d ∧ d ≤ 2147483647) (hb : -2147483647 ≤ b ∧ b ≤ 2147483647) (hi : 0 ≤ i ∧ i ≤ 16) (hj : 0 ≤ j ∧ j ≤ 16) (hn : 0 ≤ n ∧ n ≤ 16) (hq : path_near.f 3 (a * j * j * j + 3 * c * i * j * j + 3 * d * i * i * j + b * i * i * i) (n * n * n) = some q) :
    Calls Try.prog 101 #[.int .i64 a, .int .i64 c, .int .i64 d, .int .i64 b, .pointer (some ⟨bj, 0, none⟩), .pointer (some ⟨bi, 0, none⟩), .pointer (some ⟨bn, 0, none⟩)] W fun e w' => e = .returned (.int .i64 q) ∧ Below W.heap.size W w' := by
  have HQ := Aside0.mk hq
  clear hq
  have m1 := mb (X := 2147483647) (Y := 16) ha.1 ha.2 hj.1 hj.2 (by decide)
  have m2 := mb (X := 2147483647 * 16) (Y := 16) m1.1 m1.2 hj.1 hj.2 (by decide)
  have m3 := mb (X := 2147483647 * 16 * 16) (Y := 16) m2.1 m2.2 hj.1 hj.2 (by decide)
  have c1 := mb (x := 3 * c) (X := 6442450941) (Y := 16) (by omega) (by omega) hi.1 hi.2 (by decide)
  have c2 := mb (X := 6442450941 * 16) (Y := 16) c1.1 c1.2 hj.1 hj.2 (by decide)
  have c3 := mb (X := 6442450941 * 16 * 16) (Y := 16) c2.1 c2.2 hj.1 hj.2 (by decide)
  have d1 := mb (x := 3 * d) (X := 6442450941) (Y := 16) (by omega) (by omega) hi.1 hi.2 (by decide)
  have d2 := mb (X := 6442450941 * 16) (Y := 16) d1.1 d1.2 hi.1 hi.2 (by decide)
  have d3 := mb (X := 6442450941 * 16 * 16) (Y := 16) d2.1 d2.2 hj.1 hj.2 (by decide)
  have b1 := mb (X := 2147483647) (Y := 16) hb.1 hb.2 hi.1 hi.2 (by decide)
  have b2 := mb (X := 2147483647 * 16) (Y := 16) b1.1 b1.2 hi.1 hi.2 (by decide)
  have b3 := mb (X := 2147483647 * 16 * 16) (Y := 16) b2.1 b2.2 hi.1 hi.2 (by decide)
  have n1 := mb (X := 16) (Y := 16) (by omega) hn.2 hn.1 hn.2 (by decide)
  have n2 := mb (X := 16 * 16) (Y := 16) n1.1 n1.2 hn.1 hn.2 (by decide)
  have f1 := wz (x := a * j) (by omega)
  have f2 := wz (x := a * j * j) (by omega)
  have f3 := wz (x := a * j * j * j) (by omega)
  have f4 := wz (x := 3 * c) (by omega)
  have f5 := wz (x := 3 * c * i) (by omega)
  have f6 := wz (x := 3 * c * i * j) (by omega)
  have f7 := wz (x := 3 * c * i * j * j) (by omega)
  have f8 := wz (x := a * j * j * j + 3 * c * i * j * j) (by omega)
  have f9 := wz (x := 3 * d) (by omega)
  have f10 := wz (x := 3 * d * i) (by omega)
  have f11 := wz (x := 3 * d * i * i) (by omega)
  have f12 := wz (x := 3 * d * i * i * j) (by omega)
  have f13 := wz (x := a * j * j * j + 3 * c * i * j * j + 3 * d * i * i * j) (by omega)
  have f14 := wz (x := b * i) (by omega)
  have f15 := wz (x := b * i * i) (by omega)
  have f16 := wz (x := b * i * i * i) (by omega)
  have f17 := wz (x := a * j * j * j + 3 * c * i * j * j + 3 * d * i * i * j + b * i * i * i) (by omega)
  have f18 := wz (x := n * n) (by omega)
  have f19 := wz (x := n * n * n) (by omega)
  clear m1 m2 m3 c1 c2 c3 d1 d2 d3 b1 b2 b3 n1 n2 ha hb hc hd hi hj hn
  go_enter Try.func101, Try.ntmps101
  go_wp2_with (go_at_call 100; ((with_reducible refine Calls.mono (path_near.calls 3 _ _ _ _ HQ.out) ?_); rintro e w1 ⟨rfl, hb1⟩; have HB := Aside0.mk hb1; clear hb1))
  go_ret
  exact ⟨rfl, HB.out⟩
end Go.Proofs.Yteoonjnmghponaa.H
namespace Go.Proofs.Yteoonjnmghponaa.H
open Go.RowKit Go.Proofs.Yteoonjnmghponaa.F Go.Proofs.YteoonjnmghponaaW.PrintWords Go.Proofs.YteoonjnmghponaaW.PrintLast Go.Proofs.YteoonjnmghponaaW.PrintMore
set_option linter.unusedVariables false
set_option linter.unusedSimpArgs false
theorem info30 : (Try.prog.info? 30).map (fun i => (i.zero, i.size, i.bytes)) = some (some (.agg #[(.int .i64 0), (.int .i64 0)]), 2, 16) := by kernel_rfl
/-- A box. -/
structure Bx where
  x0 : Int
  y0 : Int
  x1 : Int
  y1 : Int
structure Bx.Ok (B : Bx) : Prop where
  a : -2147483647 ≤ B.x0
  b : -2147483647 ≤ B.y0
  c : B.x1 ≤ 2147483647
  d : B.y1 ≤ 2147483647
def InS (B : Bx) (x y : Int) : Prop := B.x0 ≤ x ∧ x ≤ B.x1 ∧ B.y0 ≤ y ∧ y ≤ B.y1
/-- A pen in memory: what it has drawn lies in the box, and is of N points at most. -/
structure Pn (w : World) (p : Nat) (B : Bx) (N : Nat) (v : Value) (l : List S30) (x y : Int) (W : World) : Prop where
  blk : W.heap[p]? = some (.cells #[v, .int .i64 x, .int .i64 y] 100 (0, 0))
  row : Kd.R k30 30 W w.heap.size (fun _ => True) v l
  inn : ∀ s ∈ l, InS B s.f0 s.f1
  now : N ≠ 0 → InS B x y
  len : l.length ≤ N
  be : Below w.heap.size w W
  hp : w.heap.size ≤ p
  nz : N ≠ 0 → l ≠ []
theorem ne100 : ∀ q, q ∈ 30 :: k30.E → q ≠ 100 := by decide
section
variable {w W W' : World} {p N : Nat} {B : Bx} {v : Value} {l : List S30} {x y : Int}
theorem Pn.below (h : Pn w p B N v l x y W) (hb : Below W.heap.size W W') : Pn w p B N v l x y W' :=
  ⟨blk_below h.blk hb, Kd.R_below h.row hb, h.inn, h.now, h.len, below_then h.be h.be.size hb, h.hp, h.nz⟩
theorem Pn.mono {M : Nat} (h : Pn w p B N v l x y W) (hm : N ≤ M) (h0 : 0 < N) : Pn w p B M v l x y W := ⟨h.blk, h.row, h.inn, fun _ => h.now (by omega), Nat.le_trans h.len hm, h.be, h.hp, fun _ => h.nz (by omega)⟩
theorem Pn.at_ (h : Pn w p B N v l x y W) {x' y' : Int} (hn : InS B x' y') : Pn w p B N v l x' y' ((W.setCell ⟨p, 1, none⟩ (.int .i64 x')).setCell ⟨p, 2, none⟩ (.int .i64 y')) := by
  have b1 := blk_put (cs := #[v, .int .i64 x, .int .i64 y]) h.blk 1 (.int .i64 x') rfl
  have b2 := blk_put (cs := #[v, .int .i64 x', .int .i64 y]) b1 2 (.int .i64 y') rfl
  exact ⟨b2, Kd.R_set (Kd.R_set h.row h.blk ne100 1 _) b1 ne100 2 _, h.inn, fun _ => hn, h.len, (h.be.setCell h.hp _).setCell h.hp _, h.hp, h.nz⟩
theorem Pn.ne (h : Pn w p B N v l x y W) : some p ≠ v.ownBlock := fun e => Kd.R_ne h.row h.blk (by decide) e
theorem Pn.blk9 (h : Pn w p B N v l x y W) (hg : W.grownBy W' v.ownBlock) : W'.heap[p]? = some (.cells #[v, .int .i64 x, .int .i64 y] 100 (0, 0)) := (hg.block p (blk_lt h.blk) h.ne).trans h.blk
theorem Pn.push (h : Pn w p B N v l x y W) {v9 : Value} {s : S30} (hg : W.grownBy W' v.ownBlock) (hb : Below w.heap.size w W') (ho : Kd.R k30 30 W' w.heap.size (fun _ => True) v9 (l ++ [s])) (hs : InS B s.f0 s.f1) (hn : InS B x y) : Pn w p B (N + 1) v9 (l ++ [s]) x y (W'.setCell ⟨p, 0, none⟩ v9) :=
  ⟨blk_put (h.blk9 hg) 0 _ rfl, Kd.R_set ho (h.blk9 hg) ne100 0 _, fun t ht => (List.mem_append.1 ht).elim (h.inn t) (fun h2 => by rw [List.mem_singleton.1 h2]; exact hs), fun _ => hn, by rw [List.length_append]; have := h.len; simp; omega, hb.setCell h.hp _, h.hp, fun _ => by simp⟩
end
/-- What a step of the pen leaves as it was: every block but the pen's own and its row's; the row's block stays, or is new. -/
structure Ln (p : Nat) (W : World) (v : Value) (W' : World) (v' : Value) : Prop where
  sz : W.heap.size ≤ W'.heap.size
  fx : ∀ k, k < W.heap.size → k ≠ p → some k ≠ v.ownBlock → W'.heap[k]? = W.heap[k]?
  ow : v'.ownBlock = v.ownBlock ∨ ∃ b, v'.ownBlock = some b ∧ W.heap.size ≤ b
theorem Ln.refl (p : Nat) (W : World) (v : Value) : Ln p W v W v := ⟨Nat.le_refl _, fun _ _ _ _ => rfl, .inl rfl⟩
theorem Ln.trans {p : Nat} {W W1 W2 : World} {v v1 v2 : Value} (h : Ln p W v W1 v1) (k : Ln p W1 v1 W2 v2) : Ln p W v W2 v2 := by
  refine ⟨Nat.le_trans h.sz k.sz, fun j hj hp ho => ?_, ?_⟩
  · refine (k.fx j (Nat.lt_of_lt_of_le hj h.sz) hp (fun e => ?_)).trans (h.fx j hj hp ho)
    rcases h.ow with e1 | ⟨b, e1, e2⟩
    · exact ho (by rw [e, e1])
    · rw [e1] at e
      injection e with e
      omega
  · rcases k.ow with e | ⟨b, e, hb⟩
    · rw [e]
      rcases h.ow with e1 | ⟨b, e1, e2⟩
      · exact .inl e1
      · exact .inr ⟨b, e1, e2⟩
    · exact .inr ⟨b, e, Nat.le_trans h.sz hb⟩
theorem Ln.below {p : Nat} {W W' : World} (v : Value) (hb : Below W.heap.size W W') : Ln p W v W' v := ⟨hb.size, fun k hk _ _ => hb.block k hk, .inl rfl⟩
/-- A block that the pen does not touch. -/
structure Fr (p : Nat) (v : Value) (W : World) (k : Nat) (cs : Array Value) (t : TypeId) : Prop where
  blk : W.heap[k]? = some (.cells cs t (0, 0))
  np : k ≠ p
  no : some k ≠ v.ownBlock
theorem Fr.step {p k : Nat} {v v' : Value} {W W' : World} {cs : Array Value} {t : TypeId} (h : Fr p v W k cs t) (l : Ln p W v W' v') : Fr p v' W' k cs t := by
  have hk := blk_lt h.blk
  refine ⟨(l.fx k hk h.np h.no).trans h.blk, h.np, fun e => ?_⟩
  rcases l.ow with e1 | ⟨b, e1, e2⟩
  · exact h.no (by rw [e, e1])
  · rw [e1] at e
    injection e with e
    omega
theorem Pn.own_lt {w W : World} {p N : Nat} {B : Bx} {v : Value} {l : List S30} {x y : Int} (h : Pn w p B N v l x y W) {k : Nat} (e : some k = v.ownBlock) : k < W.heap.size := Kd.R_lt h.row k e.symm
/-- A new block is none of the pen's. -/
theorem Pn.fr {w W W' : World} {p N k : Nat} {B : Bx} {v : Value} {l : List S30} {x y : Int} {cs : Array Value} {t : TypeId} (h : Pn w p B N v l x y W) (hk : W.heap.size ≤ k) (hb : W'.heap[k]? = some (.cells cs t (0, 0))) : Fr p v W' k cs t :=
  ⟨hb, by have := blk_lt h.blk; omega, fun e => by have := h.own_lt e; omega⟩
def lineT : Bool × List (List Nat × List Nat) := (true, [([], []), ([], []), ([1], [1]), ([2], [2]), ([3], [3]), ([], []), ([5], [5]), ([4, 6], [4, 6]), ([0, 0, 1, 2, 3, 4, 5, 6, 7], [0]), ([8, 0, 1, 2, 3, 4, 5, 6, 7], [8]), ([9, 7, 7, 0, 1, 2, 3, 4, 5, 6, 7], [7, 9])])
def lineB : List Nat := [0, 0, 2, 6, 14, 0, 32, 126, 1, 257, 1023]
theorem linetab : rtab .any (opsOf Try.f49 2) = lineT := by kernel_rfl
theorem linebits : waitsOk lineT.2 lineB = true := by kernel_rfl
set_option maxHeartbeats 4000000 in
set_option maxRecDepth 100000 in
theorem line_any {w W : World} {p N : Nat} {B : Bx} {v : Value} {l : List S30} {x0 y0 x y : Int} (h : Pn w p B N v l x0 y0 W) (hs : InS B x y) (hN : N ≤ 8000000000000) :
    Calls Try.prog 49 #[.pointer (some ⟨p, 0, none⟩), .agg #[.int .i64 x, .int .i64 y]] W fun e w' => e = .returned (.tuple #[]) ∧ ∃ v' l', Pn w p B (N + 1) v' l' x y w' ∧ Ln p W v w' v' := by
  have HP := Aside0.mk h
  have HS := Aside0.mk hs
  have hl := h.len
  have HN := Aside0.mk hN
  obtain ⟨A, c, rfl⟩ := Kd.R_slice h.row
  clear h hs
  go_enter Try.func49, Try.ntmps49
  have c0 : W.cell? ⟨p, 0, none⟩ = some (.slice A l.length c) := (blk_cell HP.out.blk 0).trans rfl
  have c1 : W.cell? ⟨p, 1, none⟩ = some (.int .i64 x0) := (blk_cell HP.out.blk 1).trans rfl
  have c2 : W.cell? ⟨p, 2, none⟩ = some (.int .i64 y0) := (blk_cell HP.out.blk 2).trans rfl
  have f1 := blk_frozen HP.out.blk 1
  have f2 := blk_frozen HP.out.blk 2
  have hpl := blk_lt HP.out.blk
  have hne : ¬ W.heap.size = p := by omega
  have hne2 : ¬ p = W.heap.size := by omega
  go_upto_region 2 with fail
  obtain ⟨W2, hW2⟩ : ∃ X, X = ((W.setCell ⟨p, 1, none⟩ (.int .i64 x)).setCell ⟨p, 2, none⟩ (.int .i64 y)).alloc (.cells #[.int .i64 x, .int .i64 y] 30) := ⟨_, rfl⟩
  have HP2 := Aside0.mk ((HP.out.at_ HS.out).below (below_alloc (Below.refl _ _) (.cells #[.int .i64 x, .int .i64 y] 30)))
  have hbx : W2.heap[W.heap.size]? = some (.cells #[.int .i64 x, .int .i64 y] 30 (0, 0)) := by
    rw [hW2]
    have h := blk_new ((W.setCell ⟨p, 1, none⟩ (.int .i64 x)).setCell ⟨p, 2, none⟩ (.int .i64 y)) (.cells #[.int .i64 x, .int .i64 y] 30)
    simpa using h
  rw [← hW2] at HP2 ⊢
  have HOB : Aside0 (∀ k, some k = (Value.slice A l.length c).ownBlock → k < W.heap.size) := ⟨fun k e => Kd.R_lt HP.out.row k e.symm⟩
  have HLN : Aside0 (W.heap.size ≤ W2.heap.size ∧ ∀ k, k < W.heap.size → k ≠ p → W2.heap[k]? = W.heap[k]?) := ⟨by rw [hW2]; simp, fun k hk hkp => by
    rw [hW2]
    rw [Below.heap_alloc _ _ k (by simpa using hk), Below.heap_setCell _ _ _ k (by simpa using hkp), Below.heap_setCell _ _ _ k (by simpa using hkp)]⟩
  clear c0 c1 c2 f1 f2 HP hW2 hne hne2 hpl
  obtain ⟨g, hg⟩ : ∃ g, g = W.heap.size := ⟨_, rfl⟩
  rw [← hg] at hbx HOB HLN ⊢
  have HG := Aside0.mk hg
  clear hg
  have c0 : W2.cell? ⟨p, 0, none⟩ = some (.slice A l.length c) := (blk_cell HP2.out.blk 0).trans rfl
  have c1 : W2.cell? ⟨g, 0, none⟩ = some (.int .i64 x) := (blk_cell hbx 0).trans rfl
  have c2 : W2.cell? ⟨g, 1, none⟩ = some (.int .i64 y) := (blk_cell hbx 1).trans rfl
  have HBX := Aside0.mk hbx
  clear hbx
  have HP3 : Aside0 (Pn w p B N (.slice A l.length c) l x y W2.drew) := ⟨HP2.out.below (below_drew1 (Below.refl _ _))⟩
  have LN3 : Aside0 (g ≤ W2.drew.heap.size ∧ ∀ k, k < g → k ≠ p → W2.drew.heap[k]? = W.heap[k]?) := ⟨HLN.out⟩
  have BX3 : Aside0 (W2.drew.heap[g]? = some (.cells #[.int .i64 x, .int .i64 y] 30 (0, 0))) := ⟨HBX.out⟩
  clear HP2 HBX HLN
  refine start_ (n := 11) (S := fun w' => w'.cell? ⟨p, 0, none⟩ = some (.slice A l.length c) ∧ w'.cell? ⟨g, 0, none⟩ = some (.int .i64 x) ∧ w'.cell? ⟨g, 1, none⟩ = some (.int .i64 y)) (ds := [10]) #[false, false, false, false, false, false, false, false, false, false, false] (by kernel_rfl) rfl rfl ⟨c0, c1, c2⟩ (fun hHeld => ?_); refine with_tabW linetab linebits (fun HT_ HW_ => ?_)
  generalize W2.drew = w3 at HP3 BX3 LN3 hHeld ⊢
  refine pure_ (i := 0) (N := (some 8)) (v := ?_) (a' := ?_) #[true, false, false, false, false, false, false, false, false, false, false] rfl rfl (any_of HT_.out (by kernel_rfl)) (fun _ _ _ h => h) (Or.inl ⟨by rfl, ?_⟩) ?_ ?_
  rotate_left
  · intro w'
    go_simp
    with_reducible rfl
  rotate_left
  · simp only [Act.put, List.setIfInBounds_toArray, List.set_cons_zero, List.set_cons_succ, i64_w, i32_w]
    rfl
  refine pure_ (i := 1) (N := (some 9)) (v := ?_) (a' := ?_) #[true, true, false, false, false, false, false, false, false, false, false] rfl rfl (any_of HT_.out (by kernel_rfl)) (fun _ _ _ h => h) (Or.inl ⟨by rfl, ?_⟩) ?_ ?_
  rotate_left
  · intro w'
    go_simp
    with_reducible rfl
  rotate_left
  · simp only [Act.put, List.setIfInBounds_toArray, List.set_cons_zero, List.set_cons_succ, i64_w, i32_w]
    rfl
  refine pure_ (i := 2) (N := (some 10)) (v := ?_) (a' := ?_) #[true, true, true, false, false, false, false, false, false, false, false] rfl rfl (any_of HT_.out (by kernel_rfl)) (fun _ _ _ h => h) (Or.inl ⟨by rfl, ?_⟩) ?_ ?_
  rotate_left
  · intro w'
    go_simp
    with_reducible rfl
  rotate_left
  · simp only [Act.put, List.setIfInBounds_toArray, List.set_cons_zero, List.set_cons_succ, i64_w, i32_w]
    rfl
  refine pure_ (i := 3) (N := (some 11)) (v := ?_) (a' := ?_) #[true, true, true, true, false, false, false, false, false, false, false] rfl rfl (any_of HT_.out (by kernel_rfl)) (fun _ _ _ h => h) (Or.inl ⟨by rfl, ?_⟩) ?_ ?_
  rotate_left
  · intro w'
    go_simp
    with_reducible rfl
  rotate_left
  · simp only [Act.put, List.setIfInBounds_toArray, List.set_cons_zero, List.set_cons_succ, i64_w, i32_w]
    rfl
  refine take_ (i := 4) (N := (some 12)) (v := ?_) (a' := ?_) #[true, true, true, true, true, false, false, false, false, false, false] rfl rfl (take_ofW HT_.out HW_.out (by kernel_rfl)) (fun _ _ _ h => h) (Or.inl ⟨by rfl, ?_⟩) hHeld ?_ ?_
  rotate_left
  · rintro w' ⟨s0, s1, s2⟩
    go_simp
    with_reducible rfl
  rotate_left
  · simp only [Act.put, List.setIfInBounds_toArray, List.set_cons_zero, List.set_cons_succ, i64_w, i32_w]
    rfl
  refine take_ (i := 5) (N := (some 13)) (v := ?_) (a' := ?_) #[true, true, true, true, true, true, false, false, false, false, false] rfl rfl (take_ofW HT_.out HW_.out (by kernel_rfl)) (fun _ _ _ h => h) (Or.inl ⟨by rfl, ?_⟩) hHeld ?_ ?_
  rotate_left
  · rintro w' ⟨s0, s1, s2⟩
    go_simp
    with_reducible rfl
  rotate_left
  · simp only [Act.put, List.setIfInBounds_toArray, List.set_cons_zero, List.set_cons_succ, i64_w, i32_w]
    rfl
  refine one_ (i := 6) (N := (some 14)) #[true, true, true, true, true, true, true, false, false, false, false] rfl rfl (one_of HT_.out (by kernel_rfl)) (by decide) (fun K hK => ?_)
  refine value_ (w1 := ?_) (v := ?_) (by rfl) rfl ?_ ?_
  rotate_left 2
  · go_simp
    constructor
    · rfl
    · rfl
  refine hK.out _ _ ⟨(blk_cell (blk_alloc HP3.out.blk _) 0).trans rfl, (blk_cell (blk_alloc BX3.out _) 0).trans rfl, (blk_cell (blk_alloc BX3.out _) 1).trans rfl⟩ (fun hHeld => ?_)
  clear hK K
  refine norm_ (a' := ?_) ?_ ?_
  rotate_left
  · show Act.put _ (some 14) _ = _
    simp only [Act.put, List.setIfInBounds_toArray, List.set_cons_zero, List.set_cons_succ, i64_w, i32_w]
    rfl
  refine one_ (i := 7) (N := (some 15)) #[true, true, true, true, true, true, true, true, false, false, false] rfl rfl (one_of HT_.out (by kernel_rfl)) (by decide) (fun K hK => ?_)
  refine Kd.R_append_step k30 (w0 := w) w.heap.size (by rfl) (.tmp 12) (.tmp 14) 31 30 (.agg #[(.int .i64 0), (.int .i64 0)]) 16 rfl Try.underlying31 info30 rfl (by decide) (by omega) _ l (⟨x, y⟩ : S30) [.int .i64 x, .int .i64 y] (fun _ => True) (fun _ => False) rfl rfl ?aP (fun _ hk => hk.elim) (fun _ _ => trivial) ?aO ?aB ?aS ?aL ?_
  (case aP => exact k30_mkM _ _ _ (⟨x, y⟩ : S30))
  (case aO => exact HP3.out.row)
  (case aB => exact HP3.out.be)
  (case aS => exact HP3.out.be.size)
  (case aL => omega)
  intro v1 w1 ho hb hg hat
  have hP4 := HP3.out.push hg hb ho HS.out HS.out
  have k9 := HP3.out.blk9 hg
  have hsz := hg.size
  have ln4 : ∀ u, u.ownBlock = v1.ownBlock → Ln p W (.slice A l.length c) (w1.setCell ⟨p, 0, none⟩ v1) u := fun u hu => ⟨by have := LN3.out.1; have := HG.out; simp; omega, fun k hk hkp hko => by
    rw [Below.heap_setCell _ _ _ k (by simpa using hkp), hg.block k (by have := LN3.out.1; have := HG.out; omega) hko]
    exact LN3.out.2 k (by rw [HG.out]; exact hk) hkp, by
    rw [hu]
    rcases hat with e | ⟨b, e, hb⟩
    · exact .inl e
    · exact .inr ⟨b, e, by have := LN3.out.1; have := HG.out; omega⟩⟩
  have hln := ln4 v1 rfl
  clear ln4
  have K9 := Aside0.mk k9
  obtain ⟨A1, c1, rfl⟩ := Kd.R_slice ho
  have hlen : (l ++ [(⟨x, y⟩ : S30)]).length = l.length + 1 := by simp
  rw [hlen] at hP4 hln
  have LN4 := Aside0.mk hln
  have HP4 := Aside0.mk hP4
  clear hlen hln hsz
  have hb1 := (hg.block g (blk_lt BX3.out) (fun e => by have := HOB.out g e; omega)).trans BX3.out
  refine hK.out _ _ ⟨(blk_cell K9.out 0).trans rfl, (blk_cell hb1 0).trans rfl, (blk_cell hb1 1).trans rfl⟩ (fun hHeld => ?_)
  clear hK K
  refine norm_ (a' := ?_) ?_ ?_
  rotate_left
  · show Act.put _ (some 15) _ = _
    simp only [Act.put, List.setIfInBounds_toArray, List.set_cons_zero, List.set_cons_succ, i64_w, i32_w]
    rfl
  refine pure_ (i := 8) (N := (some 16)) (v := ?_) (a' := ?_) #[true, true, true, true, true, true, true, true, true, false, false] rfl rfl (any_of HT_.out (by kernel_rfl)) (fun _ _ _ h => h) (Or.inl ⟨by rfl, ?_⟩) ?_ ?_
  rotate_left
  · intro w'
    go_simp
    with_reducible rfl
  rotate_left
  · simp only [Act.put, List.setIfInBounds_toArray, List.set_cons_zero, List.set_cons_succ, i64_w, i32_w]
    rfl
  refine pure_ (i := 9) (N := (some 17)) (v := ?_) (a' := ?_) #[true, true, true, true, true, true, true, true, true, true, false] rfl rfl (any_of HT_.out (by kernel_rfl)) (fun _ _ _ h => h) (Or.inl ⟨by rfl, ?_⟩) ?_ ?_
  rotate_left
  · intro w'
    go_simp
    with_reducible rfl
  rotate_left
  · simp only [Act.put, List.setIfInBounds_toArray, List.set_cons_zero, List.set_cons_succ, i64_w, i32_w]
    rfl
  refine last_ (i := 10) (N := none) #[true, true, true, true, true, true, true, true, true, true, true] rfl rfl (one_of HT_.out (by kernel_rfl)) (by decide) (fun K hK => ?_)
  have c9 := (blk_cell K9.out 0).trans rfl
  have g9 := blk_frozen K9.out 0
  refine skip_ (w1 := ?_) (by rfl) rfl ?_ ?_
  rotate_left
  · go_simp
    rfl
  refine hK.out _ _ ?_
  clear hK K
  refine done_ (done_of HT_.out (by kernel_rfl)) ?_
  go_wp2
  go_end0
  exact ⟨rfl, _, _, HP4.out, LN4.out⟩
end Go.Proofs.Yteoonjnmghponaa.H
