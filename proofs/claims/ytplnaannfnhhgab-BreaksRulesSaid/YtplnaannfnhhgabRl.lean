/- What serifref12.Look (the table as a text, gone through from its beginning) comes to: what ucd.Look comes to. -/
import Derived.Test.YtplnaannfnhhgabZx1
import Derived.Test.YtplnaannfnhhgabUlook
import Derived.Laws.Rows
namespace Go.Proofs.Ytplnaannfnhhgab.F
open Go.RowKit Go.Proofs.YtplnaannfnhhgabW.PrintWords Go.Proofs.YtplnaannfnhhgabW.PrintLast Go.Proofs.YtplnaannfnhhgabW.PrintMore
open Go.Proofs.Ytplnaannfnhhgab.Z
set_option linter.unusedVariables false
def digs (n : Int) : Nat := if n < 10 then 1 else if n < 100 then 2 else if n < 1000 then 3 else if n < 10000 then 4 else if n < 100000 then 5 else 6
def adv : Nat → List Int → Nat
  | p, [] => p
  | p, v :: l => adv (p + digs v + 1) l
def numL : List UInt8 → Nat → Int → Int × Nat
  | [], p, n => (n, p + 1)
  | c :: r, p, n => if (c.toNat : Int) = 32 then (n, p + 1) else numL r (p + 1) (wrap64 (wrap64 (n * 10) + (((c.toNat : Int) - 48) % 256)))
theorem tab_toList : tabB.data.toList.length = 1872 := by
  have := tabB_size
  unfold ByteArray.size at this
  rw [Array.length_toList]
  exact this
theorem wnat {p : Nat} (h : p ≤ 1872) : wrap64 ((p : Int) + 1) = ((p + 1 : Nat) : Int) := by
  unfold wrap64
  omega
theorem bt_tab (p : Nat) (c : UInt8) (r : List UInt8) (h : tabB.data.toList.drop p = c :: r) : bt tabB (p : Int) = (c.toNat : Int) ∧ p < 1872 := by
  have hp : p < tabB.data.toList.length := by
    apply Classical.byContradiction
    intro hn
    rw [List.drop_eq_nil_of_le (by omega)] at h
    cases h
  rw [List.drop_eq_getElem_cons hp] at h
  have hc := (List.cons.inj h).1
  rw [tab_toList] at hp
  refine ⟨?_, hp⟩
  have hs : ((p : Int)).toNat < tabB.size := by rw [tabB_size]; omega
  unfold bt
  rw [dif_pos hs, ← hc]
  rfl
theorem number_l0 : ∀ (rest : List UInt8) (p : Nat) (n : Int) (k : Nat), tabB.data.toList.drop p = rest → rest.length < k → p ≤ 1872 → serifref12_number.l0 k (p : Int) n = some ((numL rest p n).1, (((numL rest p n).2 : Nat) : Int))
  | [], p, n, k, hd, hk, hp => by
    obtain ⟨k, rfl⟩ : ∃ j, k = j + 1 := ⟨k - 1, by omega⟩
    have : tabB.data.toList.length ≤ p := List.drop_eq_nil_iff.1 hd
    rw [tab_toList] at this
    simp only [serifref12_number.l0, numL]
    rw [if_neg (by omega), wnat hp]
  | c :: r, p, n, k, hd, hk, hp => by
    obtain ⟨k, rfl⟩ : ∃ j, k = j + 1 := ⟨k - 1, by omega⟩
    obtain ⟨hb, hl⟩ := bt_tab p c r hd
    have hd' : tabB.data.toList.drop (p + 1) = r := by rw [← List.drop_drop, hd]; rfl
    simp only [serifref12_number.l0, numL]
    rw [if_pos (by omega), if_pos (by omega), if_pos (by rw [tabB_size]; omega), hb]
    by_cases h32 : (c.toNat : Int) = 32
    · rw [if_pos h32, if_pos h32, wnat hp]
    · rw [if_neg h32, if_neg h32, wnat hp]
      exact number_l0 r (p + 1) _ k hd' (by simp at hk; omega) (by omega)
def chk : List UInt8 → Nat → List Int → Bool
  | _, _, [] => true
  | rest, p, v :: l => decide (numL rest p 0 = (v, p + digs v + 1)) && (decide (p ≤ 1872) && chk (rest.drop (digs v + 1)) (p + digs v + 1) l)
theorem chk_at : ∀ (l : List Int) (rest : List UInt8) (p j : Nat), tabB.data.toList.drop p = rest → chk rest p l = true → j < l.length → serifref12_number.f 1873 ((adv p (l.take j) : Nat) : Int) = some (l.getD j 0, ((adv p (l.take (j + 1)) : Nat) : Int))
  | [], _, _, _, _, _, h => absurd h (Nat.not_lt_zero _)
  | v :: l, rest, p, 0, hd, hc, _ => by
    unfold chk at hc
    rw [Bool.and_eq_true, Bool.and_eq_true] at hc
    have e := of_decide_eq_true hc.1
    have hp : p ≤ 1872 := of_decide_eq_true hc.2.1
    have hl : rest.length < 1873 := by rw [← hd, List.length_drop, tab_toList]; omega
    have := number_l0 rest p 0 1873 hd hl hp
    rw [e] at this
    simpa [serifref12_number.f, adv] using this
  | v :: l, rest, p, j + 1, hd, hc, h => by
    unfold chk at hc
    rw [Bool.and_eq_true, Bool.and_eq_true] at hc
    have := chk_at l (rest.drop (digs v + 1)) (p + digs v + 1) j (by rw [← hd, List.drop_drop]; congr 1) hc.2.2 (by simpa using h)
    simpa [adv] using this
set_option maxRecDepth 100000 in
theorem chk_all : chk tabB.data.toList 0 tab.flatten = true := by decide +kernel
def pos (j : Nat) : Nat := adv 0 (tab.flatten.take j)
theorem flat_len : tab.flatten.length = 605 := by decide +kernel
theorem num_at (j : Nat) (h : j < 605) : serifref12_number.f 1873 ((pos j : Nat) : Int) = some (flat j, ((pos (j + 1) : Nat) : Int)) :=
  chk_at tab.flatten _ 0 j rfl chk_all (by rw [flat_len]; exact h)
theorem pos_lt (i : Nat) (h : i < 121) : pos (i * 5) < 1872 := by
  have hall : (List.range 121).all (fun i => decide (pos (i * 5) < 1872)) = true := by decide +kernel
  exact of_decide_eq_true (List.all_eq_true.1 hall i (List.mem_range.2 h))
theorem pos_up (i : Nat) (h : i < 121) : pos (i * 5) < pos ((i + 1) * 5) := by
  have hall : (List.range 121).all (fun i => decide (pos (i * 5) < pos ((i + 1) * 5))) = true := by decide +kernel
  exact of_decide_eq_true (List.all_eq_true.1 hall i (List.mem_range.2 h))
theorem pos_end : pos 605 = 1872 := by decide +kernel
theorem sep_next (i : Nat) (h : i < 120) : flat (i * 5 + 1) < flat ((i + 1) * 5) := by
  have hall : (List.range 120).all (fun i => decide (flat (i * 5 + 1) < flat ((i + 1) * 5))) = true := by decide +kernel
  exact of_decide_eq_true (List.all_eq_true.1 hall i (List.mem_range.2 h))
theorem ref_row (code : Int) (i : Nat) (hi : i < 121) (h0 : flat (i * 5) ≤ code) (h1 : code ≤ flat (i * 5 + 1)) : lookT code = (flat (i * 5 + 2), flat (i * 5 + 3), flat (i * 5 + 4)) := by
  have := look_row code i hi (fun t ht => by
      have a := sep_next (i - 1) (by omega)
      rw [show i - 1 + 1 = i by omega] at a
      have b := to_mono t (i - 1) (by omega) (by omega)
      exact decide_eq_false (by omega))
    (fun t ht htl => by
      have b := to_mono i t ht htl
      exact decide_eq_true (by omega))
  rw [this, if_pos h0]
theorem ref_none (code : Int) (h : ∀ t, t < 121 → ¬ (flat (t * 5) ≤ code ∧ code ≤ flat (t * 5 + 1))) : lookT code = (0, 0, 0) := by
  by_cases hh : ∀ t, t < 121 → decide (code ≤ flat (t * 5 + 1)) = false
  · exact look_none code hh
  · have hex : ∃ t, t < 121 ∧ code ≤ flat (t * 5 + 1) := Classical.byContradiction fun hn => hh fun t ht => decide_eq_false fun hc => hn ⟨t, ht, hc⟩
    have hmin : ∀ n t, t ≤ n → t < 121 → code ≤ flat (t * 5 + 1) → ∃ i, i < 121 ∧ code ≤ flat (i * 5 + 1) ∧ ∀ s, s < i → ¬ code ≤ flat (s * 5 + 1) := by
      intro n
      induction n with
      | zero => exact fun t ht htl hc => ⟨t, htl, hc, fun s hs => by omega⟩
      | succ n ih =>
        intro t ht htl hc
        by_cases hx : ∃ s, s < t ∧ code ≤ flat (s * 5 + 1)
        · obtain ⟨s, hs, hcs⟩ := hx
          exact ih s (by omega) (by omega) hcs
        · exact ⟨t, htl, hc, fun s hs hcs => hx ⟨s, hs, hcs⟩⟩
    obtain ⟨t, ht, hc⟩ := hex
    obtain ⟨i, hi, hci, hs⟩ := hmin t t (Nat.le_refl _) ht hc
    have := look_row code i hi (fun s hsi => decide_eq_false (hs s hsi)) (fun s hsi hsl => by
      have b := to_mono i s hsi hsl
      exact decide_eq_true (by omega))
    rw [this, if_neg (fun h0 => h i hi ⟨h0, hci⟩)]
def serifref12_Look.f (a0 : Int) : Option (Int × Int × Int) := some (lookT a0)
def RowIs (i k : Nat) (c0 c1 c2 c3 c4 : Int) : Prop := (1 ≤ k → c0 = flat (i * 5)) ∧ (2 ≤ k → c1 = flat (i * 5 + 1)) ∧ (3 ≤ k → c2 = flat (i * 5 + 2)) ∧ (4 ≤ k → c3 = flat (i * 5 + 3)) ∧ (5 ≤ k → c4 = flat (i * 5 + 4))
set_option maxRecDepth 100000 in
set_option maxHeartbeats 8000000 in
theorem serifref12_Look.calls (a0 : Int) (r1 r2 r3 : Int) (w : World) (h : serifref12_Look.f a0 = some (r1, r2, r3)) :
    Calls Try.prog 17 #[.int .i64 a0] w fun e w' => e = .returned (.agg #[.int .i64 r1, .int .i64 r2, .int .i64 r3]) ∧ Below w.heap.size w w' := by
  have HL := Aside0.mk (Option.some.inj h)
  clear h
  go_enter Try.func17, Try.ntmps17
  go_wp2
  go_loopw [3] (fun s3 wr => ∃ (i : Nat), s3 = .int .i64 (pos (i * 5) : Nat) ∧ i ≤ 121 ∧ wr.heap[w.heap.size]? = some (.cells #[.int .i64 0, .int .i64 0, .int .i64 0] 24 (0, 0)) ∧ Below w.heap.size w wr ∧ Aside0 (∀ t, t < i → ¬ (flat (t * 5) ≤ a0 ∧ a0 ≤ flat (t * 5 + 1)))) (fun s3 _ => 1872 - (intOf s3).toNat)
  case atStart =>
    refine ⟨0, rfl, by omega, ?_, (Below.refl _ w).alloc (Nat.le_refl _) _, ⟨fun t ht => by omega⟩⟩
    exact heap_alloc_new w (.cells #[.int .i64 0, .int .i64 0, .int .i64 0] 24)
  case round =>
    obtain ⟨i, rfl, hi, hres, hbw, HN⟩ := hrel
    have hRlt : w.heap.size < wr.heap.size := (Array.getElem?_eq_some_iff.1 hres).1
    by_cases h : i < 121
    · have hp := pos_lt i h
      have hb0 : decide (((pos (i * 5) : Nat) : Int) < 1872) = true := decide_eq_true (by omega)
      obtain ⟨wo, rfl⟩ : ∃ wo : World, wo = wr := ⟨_, rfl⟩
      go_wp2
      go_loopw [3, 5] (fun s3 s5 wq => ∃ (k : Nat) (c0 c1 c2 c3 c4 : Int), s3 = .int .i64 (pos (i * 5 + k) : Nat) ∧ s5 = .int .i64 k ∧ k ≤ 5 ∧ wq.heap[wo.heap.size]? = some (.cells #[.int .i64 c0, .int .i64 c1, .int .i64 c2, .int .i64 c3, .int .i64 c4] 67 (0, 0)) ∧ Below wo.heap.size wo wq ∧ Aside0 (RowIs i k c0 c1 c2 c3 c4)) (fun _ s5 _ => 5 - (intOf s5).toNat)
      case atStart =>
        refine ⟨0, 0, 0, 0, 0, 0, rfl, rfl, by omega, ?_, ?_, ⟨⟨by omega, by omega, by omega, by omega, by omega⟩⟩⟩
        · exact heap_alloc_new wo (.cells #[.int .i64 0, .int .i64 0, .int .i64 0, .int .i64 0, .int .i64 0] 67)
        · exact (Below.refl _ wo).alloc (Nat.le_refl _) _
      case round =>
        obtain ⟨k, c0, c1, c2, c3, c4, rfl, rfl, hk, hrow, hbq, HR⟩ := hrel
        have hkk : k = 0 ∨ k = 1 ∨ k = 2 ∨ k = 3 ∨ k = 4 ∨ k = 5 := by omega
        rcases hkk with rfl | rfl | rfl | rfl | rfl | rfl
        · have hc := cell_of_row wr wo.heap.size 0 _ _ _ hrow
          simp only [List.getElem?_toArray, List.getElem?_cons_zero, List.getElem?_cons_succ] at hc
          have hz : wr.frozen? ⟨wo.heap.size, 0, none⟩ = false := by simp [World.frozen?, hrow]
          have hn := Aside0.mk (num_at (i * 5 + 0) (by omega))
          go_wp2_with (go_at_call 40; refine (serifref12_number.calls 1873 _ _ _ _ hn.out).mono ?_; rintro e w1 ⟨rfl, m, rfl⟩)
          go_roundw
          case rel =>
            refine ⟨1, (flat (i * 5 + 0)), c1, c2, c3, c4, rfl, by go_num, by omega, ?_, ?_, ⟨?_⟩⟩
            · exact heap_setCell_same (wr.drewN m) wo.heap.size 0 _ _ _ hrow
            · exact (pw_below_drewN hbq _).setCell (Nat.le_refl _) _
            · obtain ⟨q0, q1, q2, q3, q4⟩ := HR.out
              exact ⟨fun _ => rfl, fun hh => by omega, fun hh => by omega, fun hh => by omega, fun hh => by omega⟩
          case measure =>
            simp only [intOf]
            omega
        · have hc := cell_of_row wr wo.heap.size 1 _ _ _ hrow
          simp only [List.getElem?_toArray, List.getElem?_cons_zero, List.getElem?_cons_succ] at hc
          have hz : wr.frozen? ⟨wo.heap.size, 1, none⟩ = false := by simp [World.frozen?, hrow]
          have hn := Aside0.mk (num_at (i * 5 + 1) (by omega))
          go_wp2_with (go_at_call 40; refine (serifref12_number.calls 1873 _ _ _ _ hn.out).mono ?_; rintro e w1 ⟨rfl, m, rfl⟩)
          go_roundw
          case rel =>
            refine ⟨2, c0, (flat (i * 5 + 1)), c2, c3, c4, rfl, by go_num, by omega, ?_, ?_, ⟨?_⟩⟩
            · exact heap_setCell_same (wr.drewN m) wo.heap.size 1 _ _ _ hrow
            · exact (pw_below_drewN hbq _).setCell (Nat.le_refl _) _
            · obtain ⟨q0, q1, q2, q3, q4⟩ := HR.out
              exact ⟨fun _ => q0 (by omega), fun _ => rfl, fun hh => by omega, fun hh => by omega, fun hh => by omega⟩
          case measure =>
            simp only [intOf]
            omega
        · have hc := cell_of_row wr wo.heap.size 2 _ _ _ hrow
          simp only [List.getElem?_toArray, List.getElem?_cons_zero, List.getElem?_cons_succ] at hc
          have hz : wr.frozen? ⟨wo.heap.size, 2, none⟩ = false := by simp [World.frozen?, hrow]
          have hn := Aside0.mk (num_at (i * 5 + 2) (by omega))
          go_wp2_with (go_at_call 40; refine (serifref12_number.calls 1873 _ _ _ _ hn.out).mono ?_; rintro e w1 ⟨rfl, m, rfl⟩)
          go_roundw
          case rel =>
            refine ⟨3, c0, c1, (flat (i * 5 + 2)), c3, c4, rfl, by go_num, by omega, ?_, ?_, ⟨?_⟩⟩
            · exact heap_setCell_same (wr.drewN m) wo.heap.size 2 _ _ _ hrow
            · exact (pw_below_drewN hbq _).setCell (Nat.le_refl _) _
            · obtain ⟨q0, q1, q2, q3, q4⟩ := HR.out
              exact ⟨fun _ => q0 (by omega), fun _ => q1 (by omega), fun _ => rfl, fun hh => by omega, fun hh => by omega⟩
          case measure =>
            simp only [intOf]
            omega
        · have hc := cell_of_row wr wo.heap.size 3 _ _ _ hrow
          simp only [List.getElem?_toArray, List.getElem?_cons_zero, List.getElem?_cons_succ] at hc
          have hz : wr.frozen? ⟨wo.heap.size, 3, none⟩ = false := by simp [World.frozen?, hrow]
          have hn := Aside0.mk (num_at (i * 5 + 3) (by omega))
          go_wp2_with (go_at_call 40; refine (serifref12_number.calls 1873 _ _ _ _ hn.out).mono ?_; rintro e w1 ⟨rfl, m, rfl⟩)
          go_roundw
          case rel =>
            refine ⟨4, c0, c1, c2, (flat (i * 5 + 3)), c4, rfl, by go_num, by omega, ?_, ?_, ⟨?_⟩⟩
            · exact heap_setCell_same (wr.drewN m) wo.heap.size 3 _ _ _ hrow
            · exact (pw_below_drewN hbq _).setCell (Nat.le_refl _) _
            · obtain ⟨q0, q1, q2, q3, q4⟩ := HR.out
              exact ⟨fun _ => q0 (by omega), fun _ => q1 (by omega), fun _ => q2 (by omega), fun _ => rfl, fun hh => by omega⟩
          case measure =>
            simp only [intOf]
            omega
        · have hc := cell_of_row wr wo.heap.size 4 _ _ _ hrow
          simp only [List.getElem?_toArray, List.getElem?_cons_zero, List.getElem?_cons_succ] at hc
          have hz : wr.frozen? ⟨wo.heap.size, 4, none⟩ = false := by simp [World.frozen?, hrow]
          have hn := Aside0.mk (num_at (i * 5 + 4) (by omega))
          go_wp2_with (go_at_call 40; refine (serifref12_number.calls 1873 _ _ _ _ hn.out).mono ?_; rintro e w1 ⟨rfl, m, rfl⟩)
          go_roundw
          case rel =>
            refine ⟨5, c0, c1, c2, c3, (flat (i * 5 + 4)), rfl, by go_num, by omega, ?_, ?_, ⟨?_⟩⟩
            · exact heap_setCell_same (wr.drewN m) wo.heap.size 4 _ _ _ hrow
            · exact (pw_below_drewN hbq _).setCell (Nat.le_refl _) _
            · obtain ⟨q0, q1, q2, q3, q4⟩ := HR.out
              exact ⟨fun _ => q0 (by omega), fun _ => q1 (by omega), fun _ => q2 (by omega), fun _ => q3 (by omega), fun _ => rfl⟩
          case measure =>
            simp only [intOf]
            omega
        · obtain ⟨q0, q1, q2, q3, q4⟩ := HR.out
          obtain rfl := q0 (by omega)
          obtain rfl := q1 (by omega)
          obtain rfl := q2 (by omega)
          obtain rfl := q3 (by omega)
          obtain rfl := q4 (by omega)
          have hresq : wr.heap[w.heap.size]? = some (.cells #[.int .i64 0, .int .i64 0, .int .i64 0] 24 (0, 0)) := by rw [hbq.block _ hRlt]; exact hres
          have hbel : Below w.heap.size w wr := Below.trans hbw (hbq.mono (by omega))
          clear q0 q1 q2 q3 q4 HR
          have hc0 := cell_of_row wr wo.heap.size 0 _ _ _ hrow
          have hc1 := cell_of_row wr wo.heap.size 1 _ _ _ hrow
          have hc2 := cell_of_row wr wo.heap.size 2 _ _ _ hrow
          have hc3 := cell_of_row wr wo.heap.size 3 _ _ _ hrow
          have hc4 := cell_of_row wr wo.heap.size 4 _ _ _ hrow
          simp only [List.getElem?_toArray, List.getElem?_cons_zero, List.getElem?_cons_succ] at hc0 hc1 hc2 hc3 hc4
          have hr0 := cell_of_row wr w.heap.size 0 _ _ _ hresq
          have hr1 := cell_of_row wr w.heap.size 1 _ _ _ hresq
          have hr2 := cell_of_row wr w.heap.size 2 _ _ _ hresq
          simp only [List.getElem?_toArray, List.getElem?_cons_zero, List.getElem?_cons_succ] at hr0 hr1 hr2
          have hz0 : wr.frozen? ⟨w.heap.size, 0, none⟩ = false := by simp [World.frozen?, hresq]
          have hz1 : wr.frozen? ⟨w.heap.size, 1, none⟩ = false := by simp [World.frozen?, hresq]
          have hz2 : wr.frozen? ⟨w.heap.size, 2, none⟩ = false := by simp [World.frozen?, hresq]
          have HU := Aside0.mk (pos_up i h)
          have e5 : i * 5 + 5 = (i + 1) * 5 := by omega
          have HV := Aside0.mk (ref_row a0 i h)
          have HNX := Aside0.mk (show ¬ (flat (i * 5) ≤ a0 ∧ a0 ≤ flat (i * 5 + 1)) → ∀ t, t < i + 1 → ¬ (flat (t * 5) ≤ a0 ∧ a0 ≤ flat (t * 5 + 1)) from fun hh t ht => by
            by_cases e : t = i
            · rw [e]; exact hh
            · exact HN.out t (by omega))
          have HRES := Aside0.mk hresq
          have HP := Aside0.mk hp
          clear hrow hresq hbq hres HN hp
          generalize flat (i * 5) = f0 at *
          generalize flat (i * 5 + 1) = f1 at *
          generalize flat (i * 5 + 2) = f2 at *
          generalize flat (i * 5 + 3) = f3 at *
          generalize flat (i * 5 + 4) = f4 at *
          by_cases h0 : f0 ≤ a0
          · have hb1 : decide (f0 ≤ a0) = true := decide_eq_true h0
            by_cases h1 : a0 ≤ f1
            · have hb2 : decide (a0 ≤ f1) = true := decide_eq_true h1
              have he := HV.out h0 h1
              rw [HL.out] at he
              simp only [Prod.mk.injEq] at he
              obtain ⟨rfl, rfl, rfl⟩ := he
              go_wp2
              refine bodyPost_ret (v := .agg #[.int .i64 r1, .int .i64 r2, .int .i64 r3]) (by simp [results, Try.results17, go_sem, hr0, hr1, hr2]) rfl ⟨rfl, ?_⟩
              exact ((hbel.setCell (Nat.le_refl _) _).setCell (Nat.le_refl _) _).setCell (Nat.le_refl _) _
            · have hb2 : decide (a0 ≤ f1) = false := decide_eq_false h1
              go_wp2
              go_roundw
              case rel => exact ⟨i + 1, by rw [e5], by omega, HRES.out, hbel, ⟨HNX.out (fun hh => h1 hh.2)⟩⟩
              case measure =>
                have := HU.out
                have := HP.out
                simp only [intOf, e5]
                omega
          · have hb1 : decide (f0 ≤ a0) = false := decide_eq_false h0
            go_wp2
            go_roundw
            case rel => exact ⟨i + 1, by rw [e5], by omega, HRES.out, hbel, ⟨HNX.out (fun hh => h0 hh.1)⟩⟩
            case measure =>
              have := HU.out
              have := HP.out
              simp only [intOf, e5]
              omega
    · have hi2 : i = 121 := by omega
      subst hi2
      have hresq := hres
      have hr0 := cell_of_row wr w.heap.size 0 _ _ _ hresq
      have hr1 := cell_of_row wr w.heap.size 1 _ _ _ hresq
      have hr2 := cell_of_row wr w.heap.size 2 _ _ _ hresq
      simp only [List.getElem?_toArray, List.getElem?_cons_zero, List.getElem?_cons_succ] at hr0 hr1 hr2
      have hz0 : wr.frozen? ⟨w.heap.size, 0, none⟩ = false := by simp [World.frozen?, hresq]
      have hz1 : wr.frozen? ⟨w.heap.size, 1, none⟩ = false := by simp [World.frozen?, hresq]
      have hz2 : wr.frozen? ⟨w.heap.size, 2, none⟩ = false := by simp [World.frozen?, hresq]
      have he := ref_none a0 (fun t ht => HN.out t ht)
      rw [HL.out] at he
      simp only [Prod.mk.injEq] at he
      obtain ⟨rfl, rfl, rfl⟩ := he
      have hpe : pos (121 * 5) = 1872 := pos_end
      rw [hpe]
      go_wp2
      refine bodyPost_ret (v := .agg #[.int .i64 0, .int .i64 0, .int .i64 0]) (by simp [results, Try.results17, go_sem, hr0, hr1, hr2]) rfl ⟨rfl, ?_⟩
      exact ((hbw.setCell (Nat.le_refl _) _).setCell (Nat.le_refl _) _).setCell (Nat.le_refl _) _
end Go.Proofs.Ytplnaannfnhhgab.F
