/- What ucd.Look (a binary search in the table by a closure) comes to: its plain function, and the proof that the Go code comes to it, for every number. -/
import Derived.Test.YtplnaannfnhhgabUrows
import Derived.Test.YtplnaannfnhhgabWMore
import Derived.Test.YtplnaannfnhhgabWLast
import Derived.Deep.LoopGhost
import Derived.Deep.QuietTactic
import Derived.BigQuiet
import Derived.RegionTactic
import Derived.Shelf.Abstract
namespace Go.Proofs.Ytplnaannfnhhgab.F
open Go.RowKit Go.Proofs.YtplnaannfnhhgabW.PrintWords Go.Proofs.YtplnaannfnhhgabW.PrintLast Go.Proofs.YtplnaannfnhhgabW.PrintMore
set_option linter.unusedVariables false

def flat (j : Nat) : Int := tab.flatten.getD j 0
set_option maxHeartbeats 2000000 in
/-- sort.Search over a closure that only reads: how many places lie ahead of the first at which it says yes. -/
theorem search_calls (g : Nat) (cb : Array Value) (n : Nat) (p : Nat → Bool) (w : World) (eg : ∀ args w, (callFunc g args).run Try.prog w = .ok (.enter g args) w) (hsz : n < 4611686018427387904)
    (hf : ∀ (m : Nat) (i : Nat), i < n → Calls Try.prog g (#[.int .i64 i] ++ cb) (w.drewN m) fun e w' => e = .returned (.bool (p i)) ∧ ∃ q, w' = (w.drewN m).drewN q)
    (hmono : ∀ a b, a ≤ b → b < n → p a = true → p b = true) :
    Calls Try.prog 38 #[.int .i64 n, .func (.func g) #[] cb] w fun e w' => ∃ i : Nat, e = .returned (.int .i64 i) ∧ i ≤ n ∧ (∀ t, t < i → p t = false) ∧ (∀ t, i ≤ t → t < n → p t = true) ∧ ∃ q, w' = w.drewN q := by
  have HF := Aside0.mk hf
  have M := Aside0.mk hmono
  clear hf hmono
  go_enter Try.func38, Try.ntmps38
  go_wp2
  go_loopg [5, 6] n (fun kx s5 s6 wr => ∃ (lo hi q : Nat), s5 = .int .i64 lo ∧ s6 = .int .i64 hi ∧ lo ≤ hi ∧ hi ≤ n ∧ hi - lo ≤ kx ∧ wr = w.drewN q ∧
    Aside0 ((∀ t, t < lo → p t = false) ∧ (∀ t, hi ≤ t → t < n → p t = true)))
  case atStart => exact ⟨0, n, 0, rfl, rfl, Nat.zero_le _, Nat.le_refl _, by omega, rfl, ⟨fun t ht => absurd ht (Nat.not_lt_zero _), fun t h1 h2 => by omega⟩⟩
  case round =>
    obtain ⟨lo, hi, q, rfl, rfl, hlh, hin, hg, rfl, I⟩ := hrel
    by_cases hlt : lo < hi
    · have hc := HF.out q ((lo + hi) / 2) (by omega)
      rw [show (((lo + hi) / 2 : Nat) : Int) = ((lo : Int) + (hi : Int)) / 2 by omega] at hc
      cases hp : p ((lo + hi) / 2) <;> rw [hp] at hc
      · have HP := Aside0.mk hp
        clear hp
        go_wp2_with fail
        refine hc.mono ?_
        rintro e w' ⟨rfl, nq, rfl⟩
        clear hc
        go_wp2_with fail
        go_roundg (hi - ((lo + hi) / 2 + 1))
        case measure => omega
        case rel =>
          have I2 : Aside0 ((∀ t, t < (lo + hi) / 2 + 1 → p t = false) ∧ (∀ t, hi ≤ t → t < n → p t = true)) := ⟨fun t ht => (by
            cases h : p t with
            | false => rfl
            | true => have := M.out t ((lo + hi) / 2) (by omega) (by omega) h; rw [HP.out] at this; cases this), I.out.2⟩
          exact ⟨(lo + hi) / 2 + 1, hi, q + nq, by rw [show ((lo : Int) + (hi : Int)) / 2 + 1 = (((lo + hi) / 2 + 1 : Nat) : Int) by omega], rfl, by omega, hin, Nat.le_refl _, by first | rfl | rw [World.drewN_drewN], I2⟩
      · have HP := Aside0.mk hp
        clear hp
        go_wp2_with fail
        refine hc.mono ?_
        rintro e w' ⟨rfl, nq, rfl⟩
        clear hc
        go_wp2_with fail
        go_roundg ((lo + hi) / 2 - lo)
        case measure => omega
        case rel =>
          have I2 : Aside0 ((∀ t, t < lo → p t = false) ∧ (∀ t, (lo + hi) / 2 ≤ t → t < n → p t = true)) := ⟨I.out.1, fun t ht htn => M.out ((lo + hi) / 2) t ht htn HP.out⟩
          exact ⟨lo, (lo + hi) / 2, q + nq, rfl, by rw [show ((lo : Int) + (hi : Int)) / 2 = (((lo + hi) / 2 : Nat) : Int) by omega], by omega, by omega, Nat.le_refl _, by first | rfl | rw [World.drewN_drewN], I2⟩
    · obtain rfl : hi = lo := by omega
      go_wp2
      go_ret
      exact ⟨hi, rfl, hin, I.out.1, I.out.2, q, rfl⟩

set_option maxHeartbeats 2000000 in
theorem closure_calls (bl bx bt : Nat) (x : Int) (i : Nat) (W : World) (hi : i < 121) (hl : W.cell? ⟨bl, 0, none⟩ = some (.slice (some ⟨bt, 0, none⟩) 121 121)) (hx : W.cell? ⟨bx, 0, none⟩ = some (.int .i64 x))
    (hc : W.cell? ⟨bt, i * 5 + 1, none⟩ = some (.int .i64 (flat (i * 5 + 1)))) :
    Calls Try.prog 39 (#[.int .i64 i] ++ #[.pointer (some ⟨bl, 0, none⟩), .pointer (some ⟨bx, 0, none⟩)]) W fun e w' => e = .returned (.bool (decide (x ≤ flat (i * 5 + 1)))) ∧ ∃ q, w' = W.drewN q := by
  generalize flat (i * 5 + 1) = y at hc ⊢
  have hiz : (i : Int) < 121 := by omega
  go_enter Try.func39, Try.ntmps39
  go_wp2
  go_quiet (fail)
  go_wp2
  go_ret
  exact ⟨by first | rfl | simp, _, rfl⟩
theorem flat_cell (j : Nat) (h : j < 605) : tabCells.toArray[j]? = some (.int .i64 (flat j)) := by
  have hl : tab.flatten.length = 605 := by decide +kernel
  simp only [tabCells, List.getElem?_toArray, List.getElem?_map, flat]
  rw [List.getElem?_eq_getElem (by omega), List.getD_eq_getElem?_getD, List.getElem?_eq_getElem (by omega)]
  rfl
theorem rows_any (w : World) : Calls Try.prog 37 #[] w fun e w' => e = .returned (.slice (some ⟨w.heap.size, 0, none⟩) 121 121) ∧ Aside0 (∀ j, j < 605 → w'.cell? ⟨w.heap.size, j, none⟩ = some (.int .i64 (flat j))) ∧ Aside0 (Below w.heap.size w w') ∧ Aside0 (w'.heap.size = w.heap.size + 1) := by
  refine (rows_walk w).mono ?_
  rintro e w' ⟨rfl, rfl⟩
  refine ⟨rfl, ⟨fun j hj => ?_⟩, ⟨(Below.refl _ _).alloc (Nat.le_refl _) _⟩, ⟨by simp⟩⟩
  rw [World.cell?_alloc_at _ _ _ _ rfl]
  exact flat_cell j hj
theorem to_mono (a b : Nat) (hab : a ≤ b) (hb : b < 121) : flat (a * 5 + 1) ≤ flat (b * 5 + 1) := by
  have hstep : ∀ k, k < 120 → flat (k * 5 + 1) ≤ flat ((k + 1) * 5 + 1) := by
    have hall : (List.range 120).all (fun k => decide (flat (k * 5 + 1) ≤ flat ((k + 1) * 5 + 1))) = true := by decide +kernel
    intro k hk
    simpa using List.all_eq_true.1 hall k (List.mem_range.2 hk)
  obtain ⟨d, rfl⟩ : ∃ d, b = a + d := ⟨b - a, by omega⟩
  clear hab
  induction d with
  | zero => exact Int.le_refl _
  | succ d ih => exact Int.le_trans (ih (by omega)) (hstep (a + d) (by omega))
def lookT (code : Int) : Int × Int × Int :=
  match tab.find? (fun r => decide (code ≤ r.getD 1 0)) with
  | some r => if r.getD 0 0 ≤ code then (r.getD 2 0, r.getD 3 0, r.getD 4 0) else (0, 0, 0)
  | none => (0, 0, 0)
theorem tab_len : tab.length = 121 := by decide +kernel
theorem tab_get (j : Nat) (hj : j < tab.length) : tab.getD j [] = tab[j] := by
  rw [List.getD_eq_getElem?_getD, List.getElem?_eq_getElem hj]
  rfl
theorem flat_at (i j : Nat) (hi : i < 121) (hj : j < 5) : flat (i * 5 + j) = (tab.getD i []).getD j 0 := by
  have hall : (List.range 121).all (fun i => (List.range 5).all fun j => decide (flat (i * 5 + j) = (tab.getD i []).getD j 0)) = true := by decide +kernel
  have h1 := List.all_eq_true.1 hall i (List.mem_range.2 hi)
  have h2 := List.all_eq_true.1 h1 j (List.mem_range.2 hj)
  simpa using h2
theorem look_row (code : Int) (i : Nat) (hi : i < 121) (hlo : ∀ t, t < i → decide (code ≤ flat (t * 5 + 1)) = false) (hhi : ∀ t, i ≤ t → t < 121 → decide (code ≤ flat (t * 5 + 1)) = true) :
    lookT code = if flat (i * 5) ≤ code then (flat (i * 5 + 2), flat (i * 5 + 3), flat (i * 5 + 4)) else (0, 0, 0) := by
  have hf : tab.find? (fun r => decide (code ≤ r.getD 1 0)) = some (tab.getD i []) := by
    have hl : i < tab.length := by rw [tab_len]; exact hi
    rw [List.find?_eq_some_iff_getElem]
    refine ⟨?_, i, hl, ?_, fun j hj => ?_⟩
    · rw [← flat_at i 1 hi (by omega)]
      exact hhi i (Nat.le_refl _) hi
    · exact (tab_get i hl).symm
    · have h1 := hlo j hj
      rw [flat_at j 1 (by omega) (by omega), tab_get j (by omega)] at h1
      simpa using h1
  unfold lookT
  rw [hf]
  have e0 := flat_at i 0 hi (by omega)
  rw [Nat.add_zero] at e0
  simp only
  rw [e0, flat_at i 2 hi (by omega), flat_at i 3 hi (by omega), flat_at i 4 hi (by omega)]
theorem look_none (code : Int) (hlo : ∀ t, t < 121 → decide (code ≤ flat (t * 5 + 1)) = false) : lookT code = (0, 0, 0) := by
  have hf : tab.find? (fun r => decide (code ≤ r.getD 1 0)) = none := by
    rw [List.find?_eq_none]
    intro r hr
    obtain ⟨j, hj, rfl⟩ := List.mem_iff_getElem.1 hr
    have h1 := hlo j (by rw [tab_len] at hj; exact hj)
    rw [flat_at j 1 (by rw [tab_len] at hj; exact hj) (by omega), tab_get j hj] at h1
    simpa using h1
  unfold lookT
  rw [hf]
def ucd_Look.f (a0 : Int) : Option (Int × Int × Int) := some (lookT a0)
set_option maxRecDepth 100000 in
set_option maxHeartbeats 2000000 in
theorem ucd_Look.calls (a0 : Int) (r1 r2 r3 : Int) (w : World) (h : ucd_Look.f a0 = some (r1, r2, r3)) :
    Calls Try.prog 16 #[.int .i64 a0] w fun e w' => e = .returned (.agg #[.int .i64 r1, .int .i64 r2, .int .i64 r3]) ∧ Below w.heap.size w w' := by
  have HL := Aside0.mk h
  clear h
  go_enter Try.func16, Try.ntmps16
  go_wp2_with (go_at_call 37; refine (rows_any _).mono ?_; rintro e w1 ⟨rfl, HT, HB, HS⟩)
  have hsz : ((w.alloc (.cells #[.int .i64 a0] 3)).alloc (.cells #[.int .i64 0, .int .i64 0, .int .i64 0] 24)).heap.size = w.heap.size + 1 + 1 := by simp
  have hs1 : w1.heap.size = w.heap.size + 1 + 1 + 1 := by rw [HS.out, hsz]
  have hcode : (w1.alloc (.cells #[.slice (some ⟨w.heap.size + 1 + 1, 0, none⟩) 121 121] 62)).cell? ⟨w.heap.size, 0, none⟩ = some (.int .i64 a0) := by
    rw [World.cell?_alloc_lt _ _ _ (by rw [hs1]; show w.heap.size < _; omega), HB.out.cell (by rw [hsz]; show w.heap.size < _; omega), World.cell?_alloc_lt _ _ _ (by simp), World.cell?_alloc_at _ _ _ _ rfl]
    rfl
  have hvar : (w1.alloc (.cells #[.slice (some ⟨w.heap.size + 1 + 1, 0, none⟩) 121 121] 62)).cell? ⟨w1.heap.size, 0, none⟩ = some (.slice (some ⟨w.heap.size + 1 + 1, 0, none⟩) 121 121) := by
    rw [World.cell?_alloc_at _ _ _ _ rfl]
    rfl
  have hres : ∀ j, j < 3 → (w1.alloc (.cells #[.slice (some ⟨w.heap.size + 1 + 1, 0, none⟩) 121 121] 62)).heap[w.heap.size + 1]? = some (.cells #[.int .i64 0, .int .i64 0, .int .i64 0] 24 (0, 0)) := by
    intro j _
    rw [Below.heap_alloc _ _ _ (by rw [hs1]; omega), HB.out.block _ (by rw [hsz]; omega)]
    have := heap_alloc_new (w.alloc (.cells #[.int .i64 a0] 3)) (.cells #[.int .i64 0, .int .i64 0, .int .i64 0] 24)
    simpa using this
  have htab : ∀ j, j < 605 → (w1.alloc (.cells #[.slice (some ⟨w.heap.size + 1 + 1, 0, none⟩) 121 121] 62)).cell? ⟨w.heap.size + 1 + 1, j, none⟩ = some (.int .i64 (flat j)) := by
    intro j hj
    have := HT.out j hj
    rw [hsz] at this
    rw [World.cell?_alloc_lt _ _ _ (by rw [hs1]; show w.heap.size + 1 + 1 < _; omega)]
    exact this
  have hbel : Below w.heap.size w (w1.alloc (.cells #[.slice (some ⟨w.heap.size + 1 + 1, 0, none⟩) 121 121] 62)) := by
    refine Below.alloc ?_ (by rw [hs1]; omega) _
    refine Below.trans (((Below.refl _ w).alloc (Nat.le_refl _) _).alloc (by simp) _) (HB.out.mono (by rw [hsz]; omega))
  have hszW : (w1.alloc (.cells #[.slice (some ⟨w.heap.size + 1 + 1, 0, none⟩) 121 121] 62)).heap.size = w.heap.size + 1 + 1 + 1 + 1 := by simp [hs1]
  have hres := hres 0 (by omega)
  clear HT HB HS hsz
  have HS1 := Aside0.mk hs1
  have hs1' : w.heap.size + 1 < w1.heap.size := by omega
  clear hs1
  generalize (w1.alloc (.cells #[.slice (some ⟨w.heap.size + 1 + 1, 0, none⟩) 121 121] 62)) = W at *
  have hS := search_calls 39 #[.pointer (some ⟨w1.heap.size, 0, none⟩), .pointer (some ⟨w.heap.size, 0, none⟩)] 121 (fun i => decide (a0 ≤ flat (i * 5 + 1))) W (enters_of Try.func39 (by kernel_rfl) rfl) (by omega)
    (fun m i hi => closure_calls w1.heap.size w.heap.size (w.heap.size + 1 + 1) a0 i (W.drewN m) hi hvar hcode (htab _ (by omega)))
    (fun a b hab hb h => by
      have := to_mono a b hab hb
      simp only [decide_eq_true_eq] at h ⊢
      omega)
  refine hS.mono ?_
  rintro e w2 ⟨i, rfl, hi, hlo, hhi, q, rfl⟩
  clear hS
  by_cases hlt : i < 121
  · have h0 := htab (i * 5) (by omega)
    have h2 := htab (i * 5 + 2) (by omega)
    have h3 := htab (i * 5 + 3) (by omega)
    have h4 := htab (i * 5 + 4) (by omega)
    clear htab
    have hv := look_row a0 i hlt hlo hhi
    have HV := Aside0.mk hv
    have HLO := Aside0.mk hlo
    clear hv hlo hhi
    generalize flat (i * 5) = f0 at *
    generalize flat (i * 5 + 2) = f2 at *
    generalize flat (i * 5 + 3) = f3 at *
    generalize flat (i * 5 + 4) = f4 at *
    have hc0 := cell_of_row W (w.heap.size + 1) 0 _ _ _ hres
    have hc1 := cell_of_row W (w.heap.size + 1) 1 _ _ _ hres
    have hc2 := cell_of_row W (w.heap.size + 1) 2 _ _ _ hres
    have hz0 : W.frozen? ⟨w.heap.size + 1, 0, none⟩ = false := by simp [World.frozen?, hres]
    have hz1 : W.frozen? ⟨w.heap.size + 1, 1, none⟩ = false := by simp [World.frozen?, hres]
    have hz2 : W.frozen? ⟨w.heap.size + 1, 2, none⟩ = false := by simp [World.frozen?, hres]
    clear hres
    simp only [List.getElem?_toArray, List.getElem?_cons_zero, List.getElem?_cons_succ] at hc0 hc1 hc2
    have hiz : (i : Int) < 121 := by omega
    have hib : decide ((i : Int) < 121) = true := decide_eq_true hiz
    by_cases hf : f0 ≤ a0
    · have hfb : decide (f0 ≤ a0) = true := decide_eq_true hf
      go_wp2_with fail
      go_quiet (fail)
      go_wp2_with fail
      have he := Option.some.inj HL.out
      rw [HV.out, if_pos hf] at he
      simp only [Prod.mk.injEq] at he
      obtain ⟨rfl, rfl, rfl⟩ := he
      refine bodyPost_ret (v := .agg #[.int .i64 f2, .int .i64 f3, .int .i64 f4]) (by simp [results, Try.results16, go_sem, hc0, hc1, hc2]) rfl ⟨rfl, ?_⟩
      exact (((pw_below_drewN hbel _).setCell (Nat.le_succ _) _).setCell (Nat.le_succ _) _).setCell (Nat.le_succ _) _
    · have hfb : decide (f0 ≤ a0) = false := decide_eq_false hf
      go_wp2_with fail
      go_quiet (fail)
      go_wp2_with fail
      have he := Option.some.inj HL.out
      rw [HV.out, if_neg (by omega)] at he
      simp only [Prod.mk.injEq] at he
      obtain ⟨rfl, rfl, rfl⟩ := he
      refine bodyPost_ret (v := .agg #[.int .i64 0, .int .i64 0, .int .i64 0]) (by simp [results, Try.results16, go_sem, hc0, hc1, hc2]) rfl ⟨rfl, ?_⟩
      exact (((pw_below_drewN hbel _).setCell (Nat.le_succ _) _).setCell (Nat.le_succ _) _).setCell (Nat.le_succ _) _
  · have HV := Aside0.mk (look_none a0 (fun t ht => hlo t (by omega)))
    clear hlo hhi htab
    have hc0 := cell_of_row W (w.heap.size + 1) 0 _ _ _ hres
    have hc1 := cell_of_row W (w.heap.size + 1) 1 _ _ _ hres
    have hc2 := cell_of_row W (w.heap.size + 1) 2 _ _ _ hres
    have hz0 : W.frozen? ⟨w.heap.size + 1, 0, none⟩ = false := by simp [World.frozen?, hres]
    have hz1 : W.frozen? ⟨w.heap.size + 1, 1, none⟩ = false := by simp [World.frozen?, hres]
    have hz2 : W.frozen? ⟨w.heap.size + 1, 2, none⟩ = false := by simp [World.frozen?, hres]
    clear hres
    simp only [List.getElem?_toArray, List.getElem?_cons_zero, List.getElem?_cons_succ] at hc0 hc1 hc2
    have hib : decide ((i : Int) < 121) = false := decide_eq_false (by omega)
    go_wp2_with fail
    go_quiet (fail)
    go_wp2_with fail
    have he := Option.some.inj HL.out
    rw [HV.out] at he
    simp only [Prod.mk.injEq] at he
    obtain ⟨rfl, rfl, rfl⟩ := he
    refine bodyPost_ret (v := .agg #[.int .i64 0, .int .i64 0, .int .i64 0]) (by simp [results, Try.results16, go_sem, hc0, hc1, hc2]) rfl ⟨rfl, ?_⟩
    exact (((pw_below_drewN hbel _).setCell (Nat.le_succ _) _).setCell (Nat.le_succ _) _).setCell (Nat.le_succ _) _
end Go.Proofs.Ytplnaannfnhhgab.F
