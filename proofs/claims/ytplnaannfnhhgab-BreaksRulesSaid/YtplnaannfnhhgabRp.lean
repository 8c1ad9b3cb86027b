/- What serifref12.Mirror and serifref12.Bracket (ranges over pairs) come to. -/
import Derived.Test.YtplnaannfnhhgabRg
import Derived.Laws.Rows
namespace Go.Proofs.Ytplnaannfnhhgab.F
open Go.RowKit Go.Proofs.YtplnaannfnhhgabW.PrintWords Go.Proofs.YtplnaannfnhhgabW.PrintLast Go.Proofs.YtplnaannfnhhgabW.PrintMore
set_option linter.unusedVariables false
def mirR (c : Int) : List (Int × Int) → Int
  | [] => c
  | p :: l => if c = p.1 then p.2 else if c = p.2 then p.1 else mirR c l
def braR (c : Int) : List (Int × Int) → Int × Int
  | [] => (0, 0)
  | p :: l => if c = p.1 then (p.2, 1) else if c = p.2 then (p.1, 2) else braR c l
def serifref12_Mirror.L : List (Int × Int) := [(40, 41), (60, 62), (91, 93), (123, 125), (171, 187), (12296, 12297), (12298, 12299), (12300, 12301)]
def serifref12_Mirror.f (a0 : Int) : Option (Int) := some (mirR a0 serifref12_Mirror.L)
set_option maxRecDepth 100000 in
set_option maxHeartbeats 8000000 in
theorem serifref12_Mirror.calls (a0 : Int) (r : Int) (w : World) (h : serifref12_Mirror.f a0 = some r) :
    Calls Try.prog 21 #[.int .i64 a0] w fun e w' => e = .returned (.int .i64 r) ∧ Below w.heap.size w w' := by
  have HL := Aside0.mk (Option.some.inj h)
  clear h
  have hix0 : ∀ w : World, (Instr.index 70 (.agg #[.int .i64 40, .int .i64 41, .int .i64 60, .int .i64 62, .int .i64 91, .int .i64 93, .int .i64 123, .int .i64 125, .int .i64 171, .int .i64 187, .int .i64 12296, .int .i64 12297, .int .i64 12298, .int .i64 12299, .int .i64 12300, .int .i64 12301]) (.int .i64 0)).run Try.prog w = .ok (.agg #[.int .i64 40, .int .i64 41]) w := fun _ => by kernel_rfl
  have hix1 : ∀ w : World, (Instr.index 70 (.agg #[.int .i64 40, .int .i64 41, .int .i64 60, .int .i64 62, .int .i64 91, .int .i64 93, .int .i64 123, .int .i64 125, .int .i64 171, .int .i64 187, .int .i64 12296, .int .i64 12297, .int .i64 12298, .int .i64 12299, .int .i64 12300, .int .i64 12301]) (.int .i64 1)).run Try.prog w = .ok (.agg #[.int .i64 60, .int .i64 62]) w := fun _ => by kernel_rfl
  have hix2 : ∀ w : World, (Instr.index 70 (.agg #[.int .i64 40, .int .i64 41, .int .i64 60, .int .i64 62, .int .i64 91, .int .i64 93, .int .i64 123, .int .i64 125, .int .i64 171, .int .i64 187, .int .i64 12296, .int .i64 12297, .int .i64 12298, .int .i64 12299, .int .i64 12300, .int .i64 12301]) (.int .i64 2)).run Try.prog w = .ok (.agg #[.int .i64 91, .int .i64 93]) w := fun _ => by kernel_rfl
  have hix3 : ∀ w : World, (Instr.index 70 (.agg #[.int .i64 40, .int .i64 41, .int .i64 60, .int .i64 62, .int .i64 91, .int .i64 93, .int .i64 123, .int .i64 125, .int .i64 171, .int .i64 187, .int .i64 12296, .int .i64 12297, .int .i64 12298, .int .i64 12299, .int .i64 12300, .int .i64 12301]) (.int .i64 3)).run Try.prog w = .ok (.agg #[.int .i64 123, .int .i64 125]) w := fun _ => by kernel_rfl
  have hix4 : ∀ w : World, (Instr.index 70 (.agg #[.int .i64 40, .int .i64 41, .int .i64 60, .int .i64 62, .int .i64 91, .int .i64 93, .int .i64 123, .int .i64 125, .int .i64 171, .int .i64 187, .int .i64 12296, .int .i64 12297, .int .i64 12298, .int .i64 12299, .int .i64 12300, .int .i64 12301]) (.int .i64 4)).run Try.prog w = .ok (.agg #[.int .i64 171, .int .i64 187]) w := fun _ => by kernel_rfl
  have hix5 : ∀ w : World, (Instr.index 70 (.agg #[.int .i64 40, .int .i64 41, .int .i64 60, .int .i64 62, .int .i64 91, .int .i64 93, .int .i64 123, .int .i64 125, .int .i64 171, .int .i64 187, .int .i64 12296, .int .i64 12297, .int .i64 12298, .int .i64 12299, .int .i64 12300, .int .i64 12301]) (.int .i64 5)).run Try.prog w = .ok (.agg #[.int .i64 12296, .int .i64 12297]) w := fun _ => by kernel_rfl
  have hix6 : ∀ w : World, (Instr.index 70 (.agg #[.int .i64 40, .int .i64 41, .int .i64 60, .int .i64 62, .int .i64 91, .int .i64 93, .int .i64 123, .int .i64 125, .int .i64 171, .int .i64 187, .int .i64 12296, .int .i64 12297, .int .i64 12298, .int .i64 12299, .int .i64 12300, .int .i64 12301]) (.int .i64 6)).run Try.prog w = .ok (.agg #[.int .i64 12298, .int .i64 12299]) w := fun _ => by kernel_rfl
  have hix7 : ∀ w : World, (Instr.index 70 (.agg #[.int .i64 40, .int .i64 41, .int .i64 60, .int .i64 62, .int .i64 91, .int .i64 93, .int .i64 123, .int .i64 125, .int .i64 171, .int .i64 187, .int .i64 12296, .int .i64 12297, .int .i64 12298, .int .i64 12299, .int .i64 12300, .int .i64 12301]) (.int .i64 7)).run Try.prog w = .ok (.agg #[.int .i64 12300, .int .i64 12301]) w := fun _ => by kernel_rfl
  go_enter Try.func21, Try.ntmps21
  go_wp2
  go_loopw [14] (fun s wr => ∃ (k : Nat), s = .int .i64 k ∧ k ≤ 8 ∧ Below w.heap.size w wr ∧ Aside0 (mirR a0 (serifref12_Mirror.L.drop k) = r)) (fun s _ => 8 - (intOf s).toNat)
  case atStart => exact ⟨0, rfl, by omega, Below.refl _ w, HL⟩
  case round =>
    obtain ⟨k, rfl, hk, hbw, HA⟩ := hrel
    clear HL
    have hkk : k = 0 ∨ k = 1 ∨ k = 2 ∨ k = 3 ∨ k = 4 ∨ k = 5 ∨ k = 6 ∨ k = 7 ∨ k = 8 := by omega
    rcases hkk with rfl | rfl | rfl | rfl | rfl | rfl | rfl | rfl | rfl
    · have he0 := HA.out
      have he : (if a0 = 40 then 41 else if a0 = 41 then 40 else mirR a0 [(60, 62), (91, 93), (123, 125), (171, 187), (12296, 12297), (12298, 12299), (12300, 12301)]) = r := he0
      clear he0 HA
      by_cases h1 : a0 = 40
      · rw [if_pos h1] at he
        have hb1 : (a0 == 40) = true := by rw [beq_iff_eq]; exact h1
        · clear h1
          subst he
          go_wp2
          go_ret
          exact ⟨rfl, hbw.alloc hbw.size _⟩
      · rw [if_neg h1] at he
        have hb1 : (a0 == 40) = false := by rw [beq_eq_false_iff_ne]; exact h1
        by_cases h2 : a0 = 41
        · rw [if_pos h2] at he
          have hb2 : (a0 == 41) = true := by rw [beq_iff_eq]; exact h2
          clear h1 h2
          subst he
          go_wp2
          go_ret
          exact ⟨rfl, hbw.alloc hbw.size _⟩
        · rw [if_neg h2] at he
          have hb2 : (a0 == 41) = false := by rw [beq_eq_false_iff_ne]; exact h2
          have HE := Aside0.mk he
          clear h1 h2 he
          go_wp2
          go_roundw
          case rel => exact ⟨1, by go_num, by omega, hbw.alloc hbw.size _, HE⟩
          case measure => simp only [intOf]; omega
    · have he0 := HA.out
      have he : (if a0 = 60 then 62 else if a0 = 62 then 60 else mirR a0 [(91, 93), (123, 125), (171, 187), (12296, 12297), (12298, 12299), (12300, 12301)]) = r := he0
      clear he0 HA
      by_cases h1 : a0 = 60
      · rw [if_pos h1] at he
        have hb1 : (a0 == 60) = true := by rw [beq_iff_eq]; exact h1
        · clear h1
          subst he
          go_wp2
          go_ret
          exact ⟨rfl, hbw.alloc hbw.size _⟩
      · rw [if_neg h1] at he
        have hb1 : (a0 == 60) = false := by rw [beq_eq_false_iff_ne]; exact h1
        by_cases h2 : a0 = 62
        · rw [if_pos h2] at he
          have hb2 : (a0 == 62) = true := by rw [beq_iff_eq]; exact h2
          clear h1 h2
          subst he
          go_wp2
          go_ret
          exact ⟨rfl, hbw.alloc hbw.size _⟩
        · rw [if_neg h2] at he
          have hb2 : (a0 == 62) = false := by rw [beq_eq_false_iff_ne]; exact h2
          have HE := Aside0.mk he
          clear h1 h2 he
          go_wp2
          go_roundw
          case rel => exact ⟨2, by go_num, by omega, hbw.alloc hbw.size _, HE⟩
          case measure => simp only [intOf]; omega
    · have he0 := HA.out
      have he : (if a0 = 91 then 93 else if a0 = 93 then 91 else mirR a0 [(123, 125), (171, 187), (12296, 12297), (12298, 12299), (12300, 12301)]) = r := he0
      clear he0 HA
      by_cases h1 : a0 = 91
      · rw [if_pos h1] at he
        have hb1 : (a0 == 91) = true := by rw [beq_iff_eq]; exact h1
        · clear h1
          subst he
          go_wp2
          go_ret
          exact ⟨rfl, hbw.alloc hbw.size _⟩
      · rw [if_neg h1] at he
        have hb1 : (a0 == 91) = false := by rw [beq_eq_false_iff_ne]; exact h1
        by_cases h2 : a0 = 93
        · rw [if_pos h2] at he
          have hb2 : (a0 == 93) = true := by rw [beq_iff_eq]; exact h2
          clear h1 h2
          subst he
          go_wp2
          go_ret
          exact ⟨rfl, hbw.alloc hbw.size _⟩
        · rw [if_neg h2] at he
          have hb2 : (a0 == 93) = false := by rw [beq_eq_false_iff_ne]; exact h2
          have HE := Aside0.mk he
          clear h1 h2 he
          go_wp2
          go_roundw
          case rel => exact ⟨3, by go_num, by omega, hbw.alloc hbw.size _, HE⟩
          case measure => simp only [intOf]; omega
    · have he0 := HA.out
      have he : (if a0 = 123 then 125 else if a0 = 125 then 123 else mirR a0 [(171, 187), (12296, 12297), (12298, 12299), (12300, 12301)]) = r := he0
      clear he0 HA
      by_cases h1 : a0 = 123
      · rw [if_pos h1] at he
        have hb1 : (a0 == 123) = true := by rw [beq_iff_eq]; exact h1
        · clear h1
          subst he
          go_wp2
          go_ret
          exact ⟨rfl, hbw.alloc hbw.size _⟩
      · rw [if_neg h1] at he
        have hb1 : (a0 == 123) = false := by rw [beq_eq_false_iff_ne]; exact h1
        by_cases h2 : a0 = 125
        · rw [if_pos h2] at he
          have hb2 : (a0 == 125) = true := by rw [beq_iff_eq]; exact h2
          clear h1 h2
          subst he
          go_wp2
          go_ret
          exact ⟨rfl, hbw.alloc hbw.size _⟩
        · rw [if_neg h2] at he
          have hb2 : (a0 == 125) = false := by rw [beq_eq_false_iff_ne]; exact h2
          have HE := Aside0.mk he
          clear h1 h2 he
          go_wp2
          go_roundw
          case rel => exact ⟨4, by go_num, by omega, hbw.alloc hbw.size _, HE⟩
          case measure => simp only [intOf]; omega
    · have he0 := HA.out
      have he : (if a0 = 171 then 187 else if a0 = 187 then 171 else mirR a0 [(12296, 12297), (12298, 12299), (12300, 12301)]) = r := he0
      clear he0 HA
      by_cases h1 : a0 = 171
      · rw [if_pos h1] at he
        have hb1 : (a0 == 171) = true := by rw [beq_iff_eq]; exact h1
        · clear h1
          subst he
          go_wp2
          go_ret
          exact ⟨rfl, hbw.alloc hbw.size _⟩
      · rw [if_neg h1] at he
        have hb1 : (a0 == 171) = false := by rw [beq_eq_false_iff_ne]; exact h1
        by_cases h2 : a0 = 187
        · rw [if_pos h2] at he
          have hb2 : (a0 == 187) = true := by rw [beq_iff_eq]; exact h2
          clear h1 h2
          subst he
          go_wp2
          go_ret
          exact ⟨rfl, hbw.alloc hbw.size _⟩
        · rw [if_neg h2] at he
          have hb2 : (a0 == 187) = false := by rw [beq_eq_false_iff_ne]; exact h2
          have HE := Aside0.mk he
          clear h1 h2 he
          go_wp2
          go_roundw
          case rel => exact ⟨5, by go_num, by omega, hbw.alloc hbw.size _, HE⟩
          case measure => simp only [intOf]; omega
    · have he0 := HA.out
      have he : (if a0 = 12296 then 12297 else if a0 = 12297 then 12296 else mirR a0 [(12298, 12299), (12300, 12301)]) = r := he0
      clear he0 HA
      by_cases h1 : a0 = 12296
      · rw [if_pos h1] at he
        have hb1 : (a0 == 12296) = true := by rw [beq_iff_eq]; exact h1
        · clear h1
          subst he
          go_wp2
          go_ret
          exact ⟨rfl, hbw.alloc hbw.size _⟩
      · rw [if_neg h1] at he
        have hb1 : (a0 == 12296) = false := by rw [beq_eq_false_iff_ne]; exact h1
        by_cases h2 : a0 = 12297
        · rw [if_pos h2] at he
          have hb2 : (a0 == 12297) = true := by rw [beq_iff_eq]; exact h2
          clear h1 h2
          subst he
          go_wp2
          go_ret
          exact ⟨rfl, hbw.alloc hbw.size _⟩
        · rw [if_neg h2] at he
          have hb2 : (a0 == 12297) = false := by rw [beq_eq_false_iff_ne]; exact h2
          have HE := Aside0.mk he
          clear h1 h2 he
          go_wp2
          go_roundw
          case rel => exact ⟨6, by go_num, by omega, hbw.alloc hbw.size _, HE⟩
          case measure => simp only [intOf]; omega
    · have he0 := HA.out
      have he : (if a0 = 12298 then 12299 else if a0 = 12299 then 12298 else mirR a0 [(12300, 12301)]) = r := he0
      clear he0 HA
      by_cases h1 : a0 = 12298
      · rw [if_pos h1] at he
        have hb1 : (a0 == 12298) = true := by rw [beq_iff_eq]; exact h1
        · clear h1
          subst he
          go_wp2
          go_ret
          exact ⟨rfl, hbw.alloc hbw.size _⟩
      · rw [if_neg h1] at he
        have hb1 : (a0 == 12298) = false := by rw [beq_eq_false_iff_ne]; exact h1
        by_cases h2 : a0 = 12299
        · rw [if_pos h2] at he
          have hb2 : (a0 == 12299) = true := by rw [beq_iff_eq]; exact h2
          clear h1 h2
          subst he
          go_wp2
          go_ret
          exact ⟨rfl, hbw.alloc hbw.size _⟩
        · rw [if_neg h2] at he
          have hb2 : (a0 == 12299) = false := by rw [beq_eq_false_iff_ne]; exact h2
          have HE := Aside0.mk he
          clear h1 h2 he
          go_wp2
          go_roundw
          case rel => exact ⟨7, by go_num, by omega, hbw.alloc hbw.size _, HE⟩
          case measure => simp only [intOf]; omega
    · have he0 := HA.out
      have he : (if a0 = 12300 then 12301 else if a0 = 12301 then 12300 else mirR a0 []) = r := he0
      clear he0 HA
      by_cases h1 : a0 = 12300
      · rw [if_pos h1] at he
        have hb1 : (a0 == 12300) = true := by rw [beq_iff_eq]; exact h1
        · clear h1
          subst he
          go_wp2
          go_ret
          exact ⟨rfl, hbw.alloc hbw.size _⟩
      · rw [if_neg h1] at he
        have hb1 : (a0 == 12300) = false := by rw [beq_eq_false_iff_ne]; exact h1
        by_cases h2 : a0 = 12301
        · rw [if_pos h2] at he
          have hb2 : (a0 == 12301) = true := by rw [beq_iff_eq]; exact h2
          clear h1 h2
          subst he
          go_wp2
          go_ret
          exact ⟨rfl, hbw.alloc hbw.size _⟩
        · rw [if_neg h2] at he
          have hb2 : (a0 == 12301) = false := by rw [beq_eq_false_iff_ne]; exact h2
          have HE := Aside0.mk he
          clear h1 h2 he
          go_wp2
          go_roundw
          case rel => exact ⟨8, by go_num, by omega, hbw.alloc hbw.size _, HE⟩
          case measure => simp only [intOf]; omega
    · have he : a0 = r := HA.out
      clear HA
      subst he
      go_wp2
      go_ret
      exact ⟨rfl, hbw⟩
def serifref12_Bracket.L : List (Int × Int) := [(40, 41), (91, 93), (123, 125), (12296, 12297), (12298, 12299), (12300, 12301)]
def serifref12_Bracket.f (a0 : Int) : Option (Int × Int) := some (braR a0 serifref12_Bracket.L)
set_option maxRecDepth 100000 in
set_option maxHeartbeats 8000000 in
theorem serifref12_Bracket.calls (a0 : Int) (r1 r2 : Int) (w : World) (h : serifref12_Bracket.f a0 = some (r1, r2)) :
    Calls Try.prog 19 #[.int .i64 a0] w fun e w' => e = .returned (.tuple #[.int .i64 r1, .int .i64 r2]) ∧ Below w.heap.size w w' := by
  have HL := Aside0.mk (Option.some.inj h)
  clear h
  have hix0 : ∀ w : World, (Instr.index 69 (.agg #[.int .i64 40, .int .i64 41, .int .i64 91, .int .i64 93, .int .i64 123, .int .i64 125, .int .i64 12296, .int .i64 12297, .int .i64 12298, .int .i64 12299, .int .i64 12300, .int .i64 12301]) (.int .i64 0)).run Try.prog w = .ok (.agg #[.int .i64 40, .int .i64 41]) w := fun _ => by kernel_rfl
  have hix1 : ∀ w : World, (Instr.index 69 (.agg #[.int .i64 40, .int .i64 41, .int .i64 91, .int .i64 93, .int .i64 123, .int .i64 125, .int .i64 12296, .int .i64 12297, .int .i64 12298, .int .i64 12299, .int .i64 12300, .int .i64 12301]) (.int .i64 1)).run Try.prog w = .ok (.agg #[.int .i64 91, .int .i64 93]) w := fun _ => by kernel_rfl
  have hix2 : ∀ w : World, (Instr.index 69 (.agg #[.int .i64 40, .int .i64 41, .int .i64 91, .int .i64 93, .int .i64 123, .int .i64 125, .int .i64 12296, .int .i64 12297, .int .i64 12298, .int .i64 12299, .int .i64 12300, .int .i64 12301]) (.int .i64 2)).run Try.prog w = .ok (.agg #[.int .i64 123, .int .i64 125]) w := fun _ => by kernel_rfl
  have hix3 : ∀ w : World, (Instr.index 69 (.agg #[.int .i64 40, .int .i64 41, .int .i64 91, .int .i64 93, .int .i64 123, .int .i64 125, .int .i64 12296, .int .i64 12297, .int .i64 12298, .int .i64 12299, .int .i64 12300, .int .i64 12301]) (.int .i64 3)).run Try.prog w = .ok (.agg #[.int .i64 12296, .int .i64 12297]) w := fun _ => by kernel_rfl
  have hix4 : ∀ w : World, (Instr.index 69 (.agg #[.int .i64 40, .int .i64 41, .int .i64 91, .int .i64 93, .int .i64 123, .int .i64 125, .int .i64 12296, .int .i64 12297, .int .i64 12298, .int .i64 12299, .int .i64 12300, .int .i64 12301]) (.int .i64 4)).run Try.prog w = .ok (.agg #[.int .i64 12298, .int .i64 12299]) w := fun _ => by kernel_rfl
  have hix5 : ∀ w : World, (Instr.index 69 (.agg #[.int .i64 40, .int .i64 41, .int .i64 91, .int .i64 93, .int .i64 123, .int .i64 125, .int .i64 12296, .int .i64 12297, .int .i64 12298, .int .i64 12299, .int .i64 12300, .int .i64 12301]) (.int .i64 5)).run Try.prog w = .ok (.agg #[.int .i64 12300, .int .i64 12301]) w := fun _ => by kernel_rfl
  go_enter Try.func19, Try.ntmps19
  go_wp2
  go_loopw [13] (fun s wr => ∃ (k : Nat), s = .int .i64 k ∧ k ≤ 6 ∧ Below w.heap.size w wr ∧ Aside0 (braR a0 (serifref12_Bracket.L.drop k) = (r1, r2))) (fun s _ => 6 - (intOf s).toNat)
  case atStart => exact ⟨0, rfl, by omega, Below.refl _ w, HL⟩
  case round =>
    obtain ⟨k, rfl, hk, hbw, HA⟩ := hrel
    clear HL
    have hkk : k = 0 ∨ k = 1 ∨ k = 2 ∨ k = 3 ∨ k = 4 ∨ k = 5 ∨ k = 6 := by omega
    rcases hkk with rfl | rfl | rfl | rfl | rfl | rfl | rfl
    · have he0 := HA.out
      have he : (if a0 = 40 then ((41 : Int), (1 : Int)) else if a0 = 41 then ((40 : Int), (2 : Int)) else braR a0 [(91, 93), (123, 125), (12296, 12297), (12298, 12299), (12300, 12301)]) = (r1, r2) := he0
      clear he0 HA
      by_cases h1 : a0 = 40
      · rw [if_pos h1] at he
        have hb1 : (a0 == 40) = true := by rw [beq_iff_eq]; exact h1
        · clear h1
          simp only [Prod.mk.injEq] at he
          obtain ⟨rfl, rfl⟩ := he
          go_wp2
          go_ret2
          exact ⟨rfl, hbw.alloc hbw.size _⟩
      · rw [if_neg h1] at he
        have hb1 : (a0 == 40) = false := by rw [beq_eq_false_iff_ne]; exact h1
        by_cases h2 : a0 = 41
        · rw [if_pos h2] at he
          have hb2 : (a0 == 41) = true := by rw [beq_iff_eq]; exact h2
          clear h1 h2
          simp only [Prod.mk.injEq] at he
          obtain ⟨rfl, rfl⟩ := he
          go_wp2
          go_ret2
          exact ⟨rfl, hbw.alloc hbw.size _⟩
        · rw [if_neg h2] at he
          have hb2 : (a0 == 41) = false := by rw [beq_eq_false_iff_ne]; exact h2
          have HE := Aside0.mk he
          clear h1 h2 he
          go_wp2
          go_roundw
          case rel => exact ⟨1, by go_num, by omega, hbw.alloc hbw.size _, HE⟩
          case measure => simp only [intOf]; omega
    · have he0 := HA.out
      have he : (if a0 = 91 then ((93 : Int), (1 : Int)) else if a0 = 93 then ((91 : Int), (2 : Int)) else braR a0 [(123, 125), (12296, 12297), (12298, 12299), (12300, 12301)]) = (r1, r2) := he0
      clear he0 HA
      by_cases h1 : a0 = 91
      · rw [if_pos h1] at he
        have hb1 : (a0 == 91) = true := by rw [beq_iff_eq]; exact h1
        · clear h1
          simp only [Prod.mk.injEq] at he
          obtain ⟨rfl, rfl⟩ := he
          go_wp2
          go_ret2
          exact ⟨rfl, hbw.alloc hbw.size _⟩
      · rw [if_neg h1] at he
        have hb1 : (a0 == 91) = false := by rw [beq_eq_false_iff_ne]; exact h1
        by_cases h2 : a0 = 93
        · rw [if_pos h2] at he
          have hb2 : (a0 == 93) = true := by rw [beq_iff_eq]; exact h2
          clear h1 h2
          simp only [Prod.mk.injEq] at he
          obtain ⟨rfl, rfl⟩ := he
          go_wp2
          go_ret2
          exact ⟨rfl, hbw.alloc hbw.size _⟩
        · rw [if_neg h2] at he
          have hb2 : (a0 == 93) = false := by rw [beq_eq_false_iff_ne]; exact h2
          have HE := Aside0.mk he
          clear h1 h2 he
          go_wp2
          go_roundw
          case rel => exact ⟨2, by go_num, by omega, hbw.alloc hbw.size _, HE⟩
          case measure => simp only [intOf]; omega
    · have he0 := HA.out
      have he : (if a0 = 123 then ((125 : Int), (1 : Int)) else if a0 = 125 then ((123 : Int), (2 : Int)) else braR a0 [(12296, 12297), (12298, 12299), (12300, 12301)]) = (r1, r2) := he0
      clear he0 HA
      by_cases h1 : a0 = 123
      · rw [if_pos h1] at he
        have hb1 : (a0 == 123) = true := by rw [beq_iff_eq]; exact h1
        · clear h1
          simp only [Prod.mk.injEq] at he
          obtain ⟨rfl, rfl⟩ := he
          go_wp2
          go_ret2
          exact ⟨rfl, hbw.alloc hbw.size _⟩
      · rw [if_neg h1] at he
        have hb1 : (a0 == 123) = false := by rw [beq_eq_false_iff_ne]; exact h1
        by_cases h2 : a0 = 125
        · rw [if_pos h2] at he
          have hb2 : (a0 == 125) = true := by rw [beq_iff_eq]; exact h2
          clear h1 h2
          simp only [Prod.mk.injEq] at he
          obtain ⟨rfl, rfl⟩ := he
          go_wp2
          go_ret2
          exact ⟨rfl, hbw.alloc hbw.size _⟩
        · rw [if_neg h2] at he
          have hb2 : (a0 == 125) = false := by rw [beq_eq_false_iff_ne]; exact h2
          have HE := Aside0.mk he
          clear h1 h2 he
          go_wp2
          go_roundw
          case rel => exact ⟨3, by go_num, by omega, hbw.alloc hbw.size _, HE⟩
          case measure => simp only [intOf]; omega
    · have he0 := HA.out
      have he : (if a0 = 12296 then ((12297 : Int), (1 : Int)) else if a0 = 12297 then ((12296 : Int), (2 : Int)) else braR a0 [(12298, 12299), (12300, 12301)]) = (r1, r2) := he0
      clear he0 HA
      by_cases h1 : a0 = 12296
      · rw [if_pos h1] at he
        have hb1 : (a0 == 12296) = true := by rw [beq_iff_eq]; exact h1
        · clear h1
          simp only [Prod.mk.injEq] at he
          obtain ⟨rfl, rfl⟩ := he
          go_wp2
          go_ret2
          exact ⟨rfl, hbw.alloc hbw.size _⟩
      · rw [if_neg h1] at he
        have hb1 : (a0 == 12296) = false := by rw [beq_eq_false_iff_ne]; exact h1
        by_cases h2 : a0 = 12297
        · rw [if_pos h2] at he
          have hb2 : (a0 == 12297) = true := by rw [beq_iff_eq]; exact h2
          clear h1 h2
          simp only [Prod.mk.injEq] at he
          obtain ⟨rfl, rfl⟩ := he
          go_wp2
          go_ret2
          exact ⟨rfl, hbw.alloc hbw.size _⟩
        · rw [if_neg h2] at he
          have hb2 : (a0 == 12297) = false := by rw [beq_eq_false_iff_ne]; exact h2
          have HE := Aside0.mk he
          clear h1 h2 he
          go_wp2
          go_roundw
          case rel => exact ⟨4, by go_num, by omega, hbw.alloc hbw.size _, HE⟩
          case measure => simp only [intOf]; omega
    · have he0 := HA.out
      have he : (if a0 = 12298 then ((12299 : Int), (1 : Int)) else if a0 = 12299 then ((12298 : Int), (2 : Int)) else braR a0 [(12300, 12301)]) = (r1, r2) := he0
      clear he0 HA
      by_cases h1 : a0 = 12298
      · rw [if_pos h1] at he
        have hb1 : (a0 == 12298) = true := by rw [beq_iff_eq]; exact h1
        · clear h1
          simp only [Prod.mk.injEq] at he
          obtain ⟨rfl, rfl⟩ := he
          go_wp2
          go_ret2
          exact ⟨rfl, hbw.alloc hbw.size _⟩
      · rw [if_neg h1] at he
        have hb1 : (a0 == 12298) = false := by rw [beq_eq_false_iff_ne]; exact h1
        by_cases h2 : a0 = 12299
        · rw [if_pos h2] at he
          have hb2 : (a0 == 12299) = true := by rw [beq_iff_eq]; exact h2
          clear h1 h2
          simp only [Prod.mk.injEq] at he
          obtain ⟨rfl, rfl⟩ := he
          go_wp2
          go_ret2
          exact ⟨rfl, hbw.alloc hbw.size _⟩
        · rw [if_neg h2] at he
          have hb2 : (a0 == 12299) = false := by rw [beq_eq_false_iff_ne]; exact h2
          have HE := Aside0.mk he
          clear h1 h2 he
          go_wp2
          go_roundw
          case rel => exact ⟨5, by go_num, by omega, hbw.alloc hbw.size _, HE⟩
          case measure => simp only [intOf]; omega
    · have he0 := HA.out
      have he : (if a0 = 12300 then ((12301 : Int), (1 : Int)) else if a0 = 12301 then ((12300 : Int), (2 : Int)) else braR a0 []) = (r1, r2) := he0
      clear he0 HA
      by_cases h1 : a0 = 12300
      · rw [if_pos h1] at he
        have hb1 : (a0 == 12300) = true := by rw [beq_iff_eq]; exact h1
        · clear h1
          simp only [Prod.mk.injEq] at he
          obtain ⟨rfl, rfl⟩ := he
          go_wp2
          go_ret2
          exact ⟨rfl, hbw.alloc hbw.size _⟩
      · rw [if_neg h1] at he
        have hb1 : (a0 == 12300) = false := by rw [beq_eq_false_iff_ne]; exact h1
        by_cases h2 : a0 = 12301
        · rw [if_pos h2] at he
          have hb2 : (a0 == 12301) = true := by rw [beq_iff_eq]; exact h2
          clear h1 h2
          simp only [Prod.mk.injEq] at he
          obtain ⟨rfl, rfl⟩ := he
          go_wp2
          go_ret2
          exact ⟨rfl, hbw.alloc hbw.size _⟩
        · rw [if_neg h2] at he
          have hb2 : (a0 == 12301) = false := by rw [beq_eq_false_iff_ne]; exact h2
          have HE := Aside0.mk he
          clear h1 h2 he
          go_wp2
          go_roundw
          case rel => exact ⟨6, by go_num, by omega, hbw.alloc hbw.size _, HE⟩
          case measure => simp only [intOf]; omega
    · have he : ((0 : Int), (0 : Int)) = (r1, r2) := HA.out
      clear HA
      simp only [Prod.mk.injEq] at he
      obtain ⟨rfl, rfl⟩ := he
      go_wp2
      go_ret2
      exact ⟨rfl, hbw⟩
end Go.Proofs.Ytplnaannfnhhgab.F
