/- Package cmap: the group that a code is in, and a code's glyph, walked. -/
import Derived.Test.YtebmfbfmdbimdaaZCmap5
import Derived.Shelf.Abstract
namespace Go.Proofs.Ytebmfbfmdbimdaa.F
open Go.RowKit Go.Proofs.YtebmfbfmdbimdaaW.PrintWords Go.Proofs.YtebmfbfmdbimdaaW.PrintLast Go.Proofs.YtebmfbfmdbimdaaW.PrintMore Go.Proofs.Ytebmfbfmdbimdaa.rowQ
set_option linter.unusedVariables false
set_option linter.unusedSimpArgs false
set_option maxHeartbeats 2000000 in
/-- sort.Search over a closure that only reads: how many places lie ahead of the first at which it says yes. -/
theorem search_calls (g : Nat) (cb : Array Value) (n : Nat) (p : Nat → Bool) (w : World) (eg : ∀ args w, (callFunc g args).run Try.prog w = .ok (.enter g args) w) (hsz : n < 4611686018427387904)
    (hf : ∀ (m : Nat) (i : Nat), i < n → Calls Try.prog g (#[.int .i64 i] ++ cb) (w.drewN m) fun e w' => e = .returned (.bool (p i)) ∧ ∃ q, w' = (w.drewN m).drewN q)
    (hmono : ∀ a b, a ≤ b → b < n → p a = true → p b = true) :
    Calls Try.prog 59 #[.int .i64 n, .func (.func g) #[] cb] w fun e w' => ∃ i : Nat, e = .returned (.int .i64 i) ∧ i ≤ n ∧ (∀ t, t < i → p t = false) ∧ (∀ t, i ≤ t → t < n → p t = true) ∧ ∃ q, w' = w.drewN q := by
  have HF := Aside0.mk hf
  have M := Aside0.mk hmono
  clear hf hmono
  go_enter Try.func59, Try.ntmps59
  go_wp2
  go_loopg [5, 6] n (fun kx s5 s6 wr => ∃ (lo hi q : Nat), s5 = .int .i64 lo ∧ s6 = .int .i64 hi ∧ lo ≤ hi ∧ hi ≤ n ∧ hi - lo ≤ kx ∧ wr = w.drewN q ∧
    Aside0 ((∀ t, t < lo → p t = false) ∧ (∀ t, hi ≤ t → t < n → p t = true)))
  case atStart => exact ⟨0, n, 0, rfl, rfl, Nat.zero_le _, Nat.le_refl _, by omega, rfl, ⟨fun t ht => absurd ht (Nat.not_lt_zero _), fun t h1 h2 => by omega⟩⟩
  case round =>
    obtain ⟨lo, hi, q, rfl, rfl, hlh, hin, hg, rfl, I⟩ := hrel
    by_cases hlt : lo < hi
    · have hc := HF.out q ((lo + hi) / 2) (by omega)
      rw [show (((lo + hi) / 2 : Nat) : Int) = ((lo : Int) + (hi : Int)) / 2 by omega] at hc
      cases hp : p ((lo + hi) / 2) <;> rw [hp] at hc
      · have HP := Aside0.mk hp
        clear hp
        go_wp2_with fail
        refine hc.mono ?_
        rintro e w' ⟨rfl, nq, rfl⟩
        clear hc
        go_wp2_with fail
        go_roundg (hi - ((lo + hi) / 2 + 1))
        case measure => omega
        case rel =>
          have I2 : Aside0 ((∀ t, t < (lo + hi) / 2 + 1 → p t = false) ∧ (∀ t, hi ≤ t → t < n → p t = true)) := ⟨fun t ht => (by
            cases h : p t with
            | false => rfl
            | true => have := M.out t ((lo + hi) / 2) (by omega) (by omega) h; rw [HP.out] at this; cases this), I.out.2⟩
          exact ⟨(lo + hi) / 2 + 1, hi, q + nq, by rw [show ((lo : Int) + (hi : Int)) / 2 + 1 = (((lo + hi) / 2 + 1 : Nat) : Int) by omega], rfl, by omega, hin, Nat.le_refl _, by first | rfl | rw [World.drewN_drewN], I2⟩
      · have HP := Aside0.mk hp
        clear hp
        go_wp2_with fail
        refine hc.mono ?_
        rintro e w' ⟨rfl, nq, rfl⟩
        clear hc
        go_wp2_with fail
        go_roundg ((lo + hi) / 2 - lo)
        case measure => omega
        case rel =>
          have I2 : Aside0 ((∀ t, t < lo → p t = false) ∧ (∀ t, (lo + hi) / 2 ≤ t → t < n → p t = true)) := ⟨I.out.1, fun t ht htn => M.out ((lo + hi) / 2) t ht htn HP.out⟩
          exact ⟨lo, (lo + hi) / 2, q + nq, rfl, by rw [show ((lo : Int) + (hi : Int)) / 2 = (((lo + hi) / 2 : Nat) : Int) by omega], by omega, by omega, Nat.le_refl _, by first | rfl | rw [World.drewN_drewN], I2⟩
    · obtain rfl : hi = lo := by omega
      go_wp2
      go_ret
      exact ⟨hi, rfl, hin, I.out.1, I.out.2, q, rfl⟩


set_option maxRecDepth 100000 in
set_option maxHeartbeats 2000000 in
theorem known_calls (w : World) (m : Nat) (f G x : Int) (v fn s : Value) (hm : w.heap[m]? = some (.cells #[.int .i64 f, .int .i64 G, v, fn, s] 93 (0, 0))) :
    Calls Try.prog 44 #[.pointer (some ⟨m, 0, none⟩), .int .i64 x] w fun e w' => e = .returned (.int .i64 (if x < G then x else 0)) ∧ w' = w := by
  have hc := (blk_cell hm 1).trans rfl
  clear hm
  by_cases h : x < G
  all_goals
    go_enter Try.func44, Try.ntmps44
    go_wp2
    go_ret
    simp [h]
set_option maxRecDepth 100000 in
set_option maxHeartbeats 2000000 in
theorem form_calls (w : World) (m : Nat) (f G : Int) (v fn s : Value) (hm : w.heap[m]? = some (.cells #[.int .i64 f, .int .i64 G, v, fn, s] 93 (0, 0))) :
    Calls Try.prog 39 #[.pointer (some ⟨m, 0, none⟩)] w fun e w' => e = .returned (.int .i64 f) ∧ w' = w := by
  have hc := (blk_cell hm 0).trans rfl
  clear hm
  go_enter Try.func39, Try.ntmps39
  go_wp2
  go_ret
  exact ⟨rfl, rfl⟩
set_option maxHeartbeats 2000000 in
theorem find_clo (bl bx c : Nat) (A : Option Addr) (L : List (List Int)) (x : Int) (i : Nat) (W : World) (hi : i < L.length) (hl : W.cell? ⟨bl, 0, none⟩ = some (.slice A L.length c)) (hx : W.cell? ⟨bx, 0, none⟩ = some (.int .i64 x)) (hR : RowQ 4 W A L) :
    Calls Try.prog 60 (#[.int .i64 i] ++ #[.pointer (some ⟨bl, 0, none⟩), .pointer (some ⟨bx, 0, none⟩)]) W fun e w' => e = .returned (.bool (decide (x ≤ (L.getD i []).getD 1 0))) ∧ ∃ q, w' = W.drewN q := by
  obtain ⟨a, rfl, k0, hcell⟩ := hR.cell0 (by decide) hi
  have k1 := hcell 1 (by decide) (by decide)
  clear hcell hR k0
  generalize (L.getD i []).getD 1 0 = y at *
  have p0 : (0 : Int) ≤ i := by omega
  have p1 : (i : Int) < L.length := by omega
  go_enter Try.func60, Try.ntmps60
  go_wp2
  go_quiet (fail)
  go_wp2
  go_ret
  exact ⟨by first | rfl | simp, _, rfl⟩
/-- What find hands back. -/
def FindR (L : List (List Int)) (code : Int) (i : Nat) : Value :=
  if i < L.length ∧ (L.getD i []).getD 0 0 ≤ code then .tuple #[.agg #[.int .i64 ((L.getD i []).getD 0 0), .int .i64 ((L.getD i []).getD 1 0), .int .i64 ((L.getD i []).getD 2 0), .int .i64 ((L.getD i []).getD 3 0)], .bool true] else .tuple #[.agg #[.int .i64 0, .int .i64 0, .int .i64 0, .int .i64 0], .bool false]
set_option maxRecDepth 100000 in
set_option maxHeartbeats 4000000 in
theorem find_calls (A : Option Addr) (c : Nat) (L : List (List Int)) (code : Int) (w : World) (hR : RowQ 4 w A L) (hL : L.length < 140737488355328) (hmono : ∀ a b, a ≤ b → b < L.length → (L.getD a []).getD 1 0 ≤ (L.getD b []).getD 1 0) :
    Calls Try.prog 45 #[.slice A L.length c, .int .i64 code] w fun e w' => ∃ i : Nat, i ≤ L.length ∧ (∀ t, t < i → (L.getD t []).getD 1 0 < code) ∧ (i < L.length → code ≤ (L.getD i []).getD 1 0) ∧ e = .returned (FindR L code i) ∧ Below w.heap.size w w' := by
  have hmf : ∀ (fn : Fn) (first cap : Array Value) (w : World), (Instr.makeFunc fn first cap).run Try.prog w = .ok (.func fn first cap) w := fun _ _ _ _ => rfl
  have h2 := blk_new w (.cells #[.slice A L.length c] 90)
  have h3 := blk_new (w.alloc (.cells #[.slice A L.length c] 90)) (.cells #[.int .i64 code] 3)
  have h4 := blk_new ((w.alloc (.cells #[.slice A L.length c] 90)).alloc (.cells #[.int .i64 code] 3)) (.cells #[.int .i64 0, .int .i64 0, .int .i64 0, .int .i64 0] 95)
  have hbw := below_alloc (below_alloc (below_alloc (Below.refl w.heap.size w) (.cells #[.slice A L.length c] 90)) (.cells #[.int .i64 code] 3)) (.cells #[.int .i64 0, .int .i64 0, .int .i64 0, .int .i64 0] 95)
  rw [show (w.alloc (.cells #[.slice A L.length c] 90)).heap.size = w.heap.size + 1 from by simp] at h3
  rw [show ((w.alloc (.cells #[.slice A L.length c] 90)).alloc (.cells #[.int .i64 code] 3)).heap.size = w.heap.size + 1 + 1 from by simp] at h4
  have HM := Aside0.mk hmono
  have H2 := Aside0.mk (blk_alloc (blk_alloc h2 (.cells #[.int .i64 code] 3)) (.cells #[.int .i64 0, .int .i64 0, .int .i64 0, .int .i64 0] 95))
  have H3 := Aside0.mk (blk_alloc h3 (.cells #[.int .i64 0, .int .i64 0, .int .i64 0, .int .i64 0] 95))
  have H4 := Aside0.mk h4
  have HB := Aside0.mk hbw
  have HR := Aside0.mk (hR.below hbw)
  clear hmono h2 h3 h4 hbw hR
  go_enter Try.func45, Try.ntmps45
  go_wp2_with fail
  generalize ((w.alloc (.cells #[.slice A L.length c] 90)).alloc (.cells #[.int .i64 code] 3)).alloc (.cells #[.int .i64 0, .int .i64 0, .int .i64 0, .int .i64 0] 95) = W at *
  have hS := search_calls 60 #[.pointer (some ⟨w.heap.size, 0, none⟩), .pointer (some ⟨w.heap.size + 1, 0, none⟩)] L.length (fun i => decide (code ≤ (L.getD i []).getD 1 0)) W (enters_of Try.func60 (by kernel_rfl) rfl) (by omega)
    (fun m i hi => find_clo w.heap.size (w.heap.size + 1) c A L code i (W.drewN m) hi ((blk_cell (blk_drewN H2.out m) 0).trans rfl) ((blk_cell (blk_drewN H3.out m) 0).trans rfl) (HR.out.below (pw_below_drewN (Below.refl _ _) m)))
    (fun a b hab hb h => by
      have := HM.out a b hab hb
      simp only [decide_eq_true_eq] at h ⊢
      omega)
  refine hS.mono ?_
  rintro e w2 ⟨i, rfl, hi, hlo, hhi, q, rfl⟩
  clear hS
  have HLO := Aside0.mk hlo
  have HHI := Aside0.mk hhi
  clear hlo hhi
  have c2 := (blk_cell H2.out 0).trans rfl
  have c3 := (blk_cell H3.out 0).trans rfl
  have d0 := (blk_cell H4.out 0).trans rfl
  have d1 := (blk_cell H4.out 1).trans rfl
  have d2 := (blk_cell H4.out 2).trans rfl
  have d3 := (blk_cell H4.out 3).trans rfl
  have e0 := blk_frozen H4.out 0
  have e1 := blk_frozen H4.out 1
  have e2 := blk_frozen H4.out 2
  have e3 := blk_frozen H4.out 3
  by_cases hlt : i < L.length
  · obtain ⟨a, rfl, k0, hcell⟩ := HR.out.cell0 (by decide) hlt
    have k1 := hcell 1 (by decide) (by decide)
    have k2 := hcell 2 (by decide) (by decide)
    have k3 := hcell 3 (by decide) (by decide)
    clear hcell
    have HF : Aside0 (FindR L code i = if i < L.length ∧ (L.getD i []).getD 0 0 ≤ code then .tuple #[.agg #[.int .i64 ((L.getD i []).getD 0 0), .int .i64 ((L.getD i []).getD 1 0), .int .i64 ((L.getD i []).getD 2 0), .int .i64 ((L.getD i []).getD 3 0)], .bool true] else .tuple #[.agg #[.int .i64 0, .int .i64 0, .int .i64 0, .int .i64 0], .bool false]) := ⟨rfl⟩
    have HTO := Aside0.mk (of_decide_eq_true (HHI.out i (Nat.le_refl _) hlt))
    generalize (L.getD i []).getD 0 0 = z0 at *
    generalize (L.getD i []).getD 1 0 = z1 at *
    generalize (L.getD i []).getD 2 0 = z2 at *
    generalize (L.getD i []).getD 3 0 = z3 at *
    have p0 : (0 : Int) ≤ i := by omega
    have p1 : (i : Int) < L.length := by omega
    have hib : decide ((i : Int) < (L.length : Int)) = true := decide_eq_true p1
    by_cases hf : z0 ≤ code
    · have hfb : decide (z0 ≤ code) = true := decide_eq_true hf
      rw [if_pos ⟨hlt, hf⟩] at HF
      go_wp2_with fail
      go_quiet (fail)
      go_wp2_with fail
      have hb := blk_set (blk_set (blk_set (blk_set (blk_drewN H4.out (q + nq)) 0 (.int .i64 z0)) 1 (.int .i64 z1)) 2 (.int .i64 z2)) 3 (.int .i64 z3)
      have r0 := (blk_cell hb 0).trans rfl
      have r1 := (blk_cell hb 1).trans rfl
      have r2 := (blk_cell hb 2).trans rfl
      have r3 := (blk_cell hb 3).trans rfl
      refine bodyPost_ret (v := .tuple #[.agg #[.int .i64 z0, .int .i64 z1, .int .i64 z2, .int .i64 z3], .bool true]) (by simp [results, Try.results45, go_sem, r0, r1, r2, r3]) rfl ⟨i, hi, fun t ht => by simpa using HLO.out t ht, fun h => of_decide_eq_true (HHI.out i (Nat.le_refl _) h), by rw [HF.out], ?_⟩
      exact below_set (below_set (below_set (below_set (pw_below_drewN HB.out _) (by omega)) (by omega)) (by omega)) (by omega)
    · have hfb : decide (z0 ≤ code) = false := decide_eq_false hf
      rw [if_neg (fun h => hf h.2)] at HF
      go_wp2_with fail
      go_quiet (fail)
      go_wp2_with fail
      have hb := blk_set (blk_set (blk_set (blk_set (blk_drewN H4.out (q + nq)) 0 (.int .i64 0)) 1 (.int .i64 0)) 2 (.int .i64 0)) 3 (.int .i64 0)
      have r0 := (blk_cell hb 0).trans rfl
      have r1 := (blk_cell hb 1).trans rfl
      have r2 := (blk_cell hb 2).trans rfl
      have r3 := (blk_cell hb 3).trans rfl
      refine bodyPost_ret (v := .tuple #[.agg #[.int .i64 0, .int .i64 0, .int .i64 0, .int .i64 0], .bool false]) (by simp [results, Try.results45, go_sem, r0, r1, r2, r3]) rfl ⟨i, hi, fun t ht => by simpa using HLO.out t ht, fun h => of_decide_eq_true (HHI.out i (Nat.le_refl _) h), by rw [HF.out], ?_⟩
      exact below_set (below_set (below_set (below_set (pw_below_drewN HB.out _) (by omega)) (by omega)) (by omega)) (by omega)
  · have HF : Aside0 (FindR L code i = .tuple #[.agg #[.int .i64 0, .int .i64 0, .int .i64 0, .int .i64 0], .bool false]) := ⟨if_neg (fun h => hlt h.1)⟩
    have hib : decide ((i : Int) < (L.length : Int)) = false := decide_eq_false (by omega)
    go_wp2_with fail
    go_quiet (fail)
    go_wp2_with fail
    have hb := blk_set (blk_set (blk_set (blk_set (blk_drewN H4.out (q + nq)) 0 (.int .i64 0)) 1 (.int .i64 0)) 2 (.int .i64 0)) 3 (.int .i64 0)
    have r0 := (blk_cell hb 0).trans rfl
    have r1 := (blk_cell hb 1).trans rfl
    have r2 := (blk_cell hb 2).trans rfl
    have r3 := (blk_cell hb 3).trans rfl
    refine bodyPost_ret (v := .tuple #[.agg #[.int .i64 0, .int .i64 0, .int .i64 0, .int .i64 0], .bool false]) (by simp [results, Try.results45, go_sem, r0, r1, r2, r3]) rfl ⟨i, hi, fun t ht => by simpa using HLO.out t ht, fun h => absurd h hlt, by rw [HF.out], ?_⟩
    exact below_set (below_set (below_set (below_set (pw_below_drewN HB.out _) (by omega)) (by omega)) (by omega)) (by omega)
/-- The rows that an own row of cells in fours tells. -/
theorem row4_of {w : World} {base : Nat} {e : TypeId} {v : Value} {L : List (List Int)} (h : w.ownsRow base e 4 v L.length (L.flatten.map (Value.int .i64))) (h4 : ∀ z ∈ L, z.length = 4) : ∃ A c, v = .slice A L.length c ∧ RowQ 4 w A L := by
  have hget : ∀ (L : List (List Int)), (∀ z ∈ L, z.length = 4) → ∀ i j, i < L.length → j < 4 → L.flatten[i * 4 + j]? = some ((L.getD i []).getD j 0) := by
    intro L
    induction L with
    | nil => intro _ i j hi; simp at hi
    | cons z L ih =>
      intro h4 i j hi hj
      have hz : z.length = 4 := h4 z List.mem_cons_self
      rw [List.flatten_cons]
      cases i with
      | zero =>
        rw [Nat.zero_mul, Nat.zero_add, List.getElem?_append_left (by omega), List.getElem?_eq_getElem (by omega)]
        simp [List.getD_eq_getElem?_getD, List.getElem?_eq_getElem (show j < z.length by omega)]
      | succ i =>
        rw [List.getElem?_append_right (by omega), show (i + 1) * 4 + j - z.length = i * 4 + j by omega, ih (fun z' hz' => h4 z' (List.mem_cons_of_mem _ hz')) i j (by simpa using hi) hj]
        simp
  rcases h.2 with ⟨rfl, hn⟩ | ⟨g, cap, cur, rfl, hbg, hg, hnc, hcm, hcs, htake⟩
  · refine ⟨none, 0, by rw [hn], fun i hi => by omega⟩
  · refine ⟨_, _, rfl, fun i hi => ⟨_, rfl, fun j hj => ?_⟩⟩
    have hc := hget L h4 i j hi hj
    have h1 : (L.flatten.map (Value.int .i64))[i * 4 + j]? = some (.int .i64 ((L.getD i []).getD j 0)) := by rw [List.getElem?_map, hc]; rfl
    exact h.cells rfl _ _ h1
/-- The glyph that groups give a code. -/
def glyphOf (L : List (List Int)) (G code : Int) : Int :=
  if code < 0 ∨ 1114111 < code then 0 else match L.find? (fun z => decide (code ≤ z.getD 1 0)) with
  | some z => if z.getD 0 0 ≤ code then (if z.getD 2 0 + z.getD 3 0 * (code - z.getD 0 0) < G then z.getD 2 0 + z.getD 3 0 * (code - z.getD 0 0) else 0) else 0
  | none => 0
theorem find_at {L : List (List Int)} {code : Int} {i : Nat} (hi : i ≤ L.length) (hlo : ∀ t, t < i → (L.getD t []).getD 1 0 < code) (hhi : i < L.length → code ≤ (L.getD i []).getD 1 0) : L.find? (fun z => decide (code ≤ z.getD 1 0)) = if i < L.length then some (L.getD i []) else none := by
  split
  · rename_i hlt
    rw [List.find?_eq_some_iff_getElem]
    refine ⟨by simpa using hhi hlt, i, hlt, ?_, fun j hj => ?_⟩
    · rw [List.getD_eq_getElem?_getD, List.getElem?_eq_getElem hlt]; rfl
    · have := hlo j hj
      have e : L.getD j [] = L[j]'(by omega) := by rw [List.getD_eq_getElem?_getD, List.getElem?_eq_getElem (by omega)]; rfl
      rw [e] at this
      simp only [Bool.not_eq_true', decide_eq_false_iff_not]
      omega
  · rename_i hlt
    rw [List.find?_eq_none]
    intro z hz
    obtain ⟨j, hj, rfl⟩ := List.getElem_of_mem hz
    have := hlo j (by omega)
    have e : L.getD j [] = L[j] := by rw [List.getD_eq_getElem?_getD, List.getElem?_eq_getElem hj]; rfl
    rw [e] at this
    simp only [decide_eq_true_eq]
    omega
set_option maxRecDepth 100000 in
set_option maxHeartbeats 4000000 in
theorem glyph_calls (A : Option Addr) (c : Nat) (L : List (List Int)) (m : Nat) (f G code : Int) (w : World) (hm : w.heap[m]? = some (.cells #[.int .i64 f, .int .i64 G, .slice A L.length c, .nilFunc, .slice none 0 0] 93 (0, 0))) (hR : RowQ 4 w A L) (hL : L.length < 140737488355328) (hmono : ∀ a b, a ≤ b → b < L.length → (L.getD a []).getD 1 0 ≤ (L.getD b []).getD 1 0)
    (hw : ∀ z ∈ L, 0 ≤ z.getD 0 0 ∧ 0 ≤ z.getD 2 0 ∧ z.getD 2 0 ≤ 4294967296 ∧ (z.getD 3 0 = 0 ∨ z.getD 3 0 = 1)) :
    Calls Try.prog 29 #[.pointer (some ⟨m, 0, none⟩), .int .i64 code] w fun e w' => e = .returned (.int .i64 (glyphOf L G code)) ∧ Below w.heap.size w w' := by
  have HM := Aside0.mk hm
  have HC := Aside0.mk (fun (W : World) (hr : RowQ 4 W A L) => find_calls A c L code W hr hL hmono)
  have HK := Aside0.mk (fun (W : World) (x : Int) (h : W.heap[m]? = some (.cells #[.int .i64 f, .int .i64 G, .slice A L.length c, .nilFunc, .slice none 0 0] 93 (0, 0))) => known_calls W m f G x _ _ _ h)
  have HR := Aside0.mk hR
  have HW := Aside0.mk hw
  have c2 := (blk_cell hm 2).trans rfl
  have c3 := (blk_cell hm 3).trans rfl
  have hnf : ∀ W : World, (binOp BinOp.neq 63 .nilFunc .nilFunc).run Try.prog W = .ok (.bool false) W := fun W => by kernel_rfl
  clear hm hR hmono hw
  by_cases ho : code < 0 ∨ 1114111 < code
  · have hd : decide (code < 0) = true ∨ (decide (code < 0) = false ∧ decide (1114111 < code) = true) := by
      simp only [decide_eq_true_eq, decide_eq_false_iff_not]
      omega
    have hg : glyphOf L G code = 0 := if_pos ho
    have HG := Aside0.mk hg
    clear ho hg
    rcases hd with h1 | ⟨h1, h2⟩
    all_goals
      go_enter Try.func29, Try.ntmps29
      go_wp2_with fail
      go_ret
      exact ⟨by rw [HG.out]; rfl, Below.refl _ _⟩
  · have h1 : decide (code < 0) = false := decide_eq_false (by omega)
    have h2 : decide (1114111 < code) = false := decide_eq_false (by omega)
    have HCO : Aside0 (0 ≤ code ∧ code ≤ 1114111) := ⟨by omega⟩
    have HG : Aside0 (glyphOf L G code = _) := ⟨if_neg ho⟩
    clear ho
    go_enter Try.func29, Try.ntmps29
    go_wp2_with fail
    refine (HC.out _ HR.out).mono ?_
    rintro e w1 ⟨i, hi, hlo, hhi, he, hb⟩
    have HF := find_at hi hlo hhi
    rw [HF] at HG
    have HM1 := blk_below HM.out hb
    have HB1 := Aside0.mk hb
    clear hlo hhi hb HC HF
    by_cases hlt : i < L.length ∧ (L.getD i []).getD 0 0 ≤ code
    · rw [FindR, if_pos hlt] at he
      rw [if_pos hlt.1] at HG
      have HWi := Aside0.mk (HW.out (L.getD i []) (by rw [List.getD_eq_getElem?_getD, List.getElem?_eq_getElem hlt.1]; exact List.getElem_mem _))
      have hle := hlt.2
      simp only [if_pos hle] at HG
      generalize (L.getD i []).getD 0 0 = z0 at *
      generalize (L.getD i []).getD 1 0 = z1 at *
      generalize (L.getD i []).getD 2 0 = z2 at *
      generalize (L.getD i []).getD 3 0 = z3 at *
      have HM2 := Aside0.mk (blk_below HM1 (below_alloc (Below.refl _ _) (.cells #[.int .i64 z0, .int .i64 z1, .int .i64 z2, .int .i64 z3] 95)))
      have HX : Aside0 (wrap64 (z2 + wrap64 (z3 * wrap64 (code - z0))) = z2 + z3 * (code - z0)) := ⟨by
        obtain ⟨h0, h2, h3, h1⟩ := HWi.out
        have := HCO.out
        unfold wrap64
        rcases h1 with rfl | rfl
        · omega
        · omega⟩
      subst he
      clear hlt HM1 hle
      have HV : Aside0 (∃ y, (if z2 + z3 * (code - z0) < G then z2 + z3 * (code - z0) else 0) = y) := ⟨⟨_, rfl⟩⟩
      obtain ⟨y, hy⟩ := HV.out
      have HY := Aside0.mk hy
      rw [hy] at HG
      clear HV hy
      go_wp2_with (go_at_call 44; rw [HX.out]; (refine (HK.out _ _ HM2.out).mono ?_); rw [HY.out]; rintro e w2 ⟨rfl, rfl⟩)
      go_ret
      refine ⟨?_, below_alloc HB1.out _⟩
      rw [HG.out]
      rfl
    · rw [FindR, if_neg hlt] at he
      have HG0 : Aside0 (glyphOf L G code = 0) := ⟨by
        rw [HG.out]
        by_cases h : i < L.length
        · rw [if_pos h]
          exact if_neg (fun h2 => hlt ⟨h, h2⟩)
        · rw [if_neg h]⟩
      subst he
      clear hlt HM1 HG
      go_wp2_with fail
      go_ret
      exact ⟨by rw [HG0.out]; rfl, below_alloc HB1.out _⟩
end Go.Proofs.Ytebmfbfmdbimdaa.F
