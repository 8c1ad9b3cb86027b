/- What ucd.other (a range over a text of pairs) comes to: its plain function, and the proof that the Go code comes to it, for every text below 2^47 bytes. -/
import Derived.Test.YtplnaannfnhhgabRg
namespace Go.Proofs.Ytplnaannfnhhgab.F
open Go.RowKit Go.Proofs.YtplnaannfnhhgabW.PrintWords Go.Proofs.YtplnaannfnhhgabW.PrintLast Go.Proofs.YtplnaannfnhhgabW.PrintMore
set_option linter.unusedVariables false
/-- last: the character ahead; at: how many came -/
def otherL (code : Int) : List Int → Int → Nat → Int × Int
  | [], _, _ => (0, 0)
  | c :: l, last, at_ => if at_ % 2 = 1 ∧ last = code then (c, 1) else if at_ % 2 = 1 ∧ c = code then (last, 2) else otherL code l c (at_ + 1)
def ucd_other.f (a0 : ByteArray) (a1 : Int) : Option (Int × Int) := if a0.size ≤ 140737488355328 then some (otherL a1 (decFrom a0 a0.size 0) 0 0) else none
set_option maxHeartbeats 4000000 in
set_option maxRecDepth 100000 in
theorem ucd_other.calls (a0 : ByteArray) (a1 : Int) (r1 r2 : Int) (w : World) (h : ucd_other.f a0 a1 = some (r1, r2)) :
    Calls Try.prog 41 #[.string a0, .int .i64 a1] w fun e w' => e = .returned (.tuple #[.int .i64 r1, .int .i64 r2]) ∧ Below w.heap.size w w' := by
  have hsz : a0.size ≤ 140737488355328 := by
    unfold ucd_other.f at h
    split at h
    · assumption
    · cases h
  unfold ucd_other.f at h
  rw [if_pos hsz] at h
  have HF := Aside0.mk (Option.some.inj h)
  clear h
  go_enter Try.func41, Try.ntmps41
  go_wp2
  go_loopw [6, 7] (fun s6 s7 wr => ∃ (pos fuel k : Nat) (last : Int), s6 = .int .i32 last ∧ s7 = .int .i64 k ∧ -2147483648 ≤ last ∧ last ≤ 2147483647 ∧ wr.heap[w.heap.size]? = some (.stringIter a0 pos) ∧ Below w.heap.size w wr ∧ Aside0 (otherL a1 (decFrom a0 fuel pos) last k = (r1, r2)) ∧ a0.size ≤ pos + fuel ∧ k ≤ pos) (fun _ _ wr => a0.size - wr.iterPos w.heap.size)
  case atStart =>
    refine ⟨0, a0.size, 0, 0, rfl, rfl, by omega, by omega, ?_, (Below.refl _ w).alloc (Nat.le_refl _) _, HF, by omega, by omega⟩
    simpa using World.iter_heap w a0 0
  case round =>
    obtain ⟨pos, fuel, k, last, rfl, rfl, hl0, hl1, hit, hbw, HA, hfu, hkp⟩ := hrel
    clear HF
    have hsz1 : w.heap.size < wr.heap.size := (Array.getElem?_eq_some_iff.1 hit).1
    by_cases hp : pos < a0.size
    · have hnx : ∀ ty, (Instr.next (.pointer (some ⟨w.heap.size, 0, none⟩)) true ty).run Try.prog wr = _ := fun ty => Lib.run_next_any_at wr w.heap.size a0 pos ty hit hp
      have hwd := width_pos a0 pos hp
      have hd1 := decode_le a0 pos
      have HI2 := Aside0.mk (Lib.iterAt_heap wr w.heap.size a0 pos (pos + (Utf8.decode a0 pos).2) hit)
      have hbw2 := Lib.below_iterAt hbw (k := w.heap.size) (Nat.le_refl _) a0 (pos + (Utf8.decode a0 pos).2)
      have HIT := Aside0.mk hit
      clear hit hbw
      obtain ⟨f, rfl⟩ : ∃ f, fuel = f + 1 := ⟨fuel - 1, by omega⟩
      have HA2 : Aside0 ((if k % 2 = 1 ∧ last = a1 then (((Utf8.decode a0 pos).1 : Int), (1 : Int)) else if k % 2 = 1 ∧ ((Utf8.decode a0 pos).1 : Int) = a1 then (last, 2) else otherL a1 (decFrom a0 f (pos + (Utf8.decode a0 pos).2)) ((Utf8.decode a0 pos).1 : Int) (k + 1)) = (r1, r2)) := ⟨by
        have := HA.out
        simp only [decFrom, hp, if_true, otherL] at this
        exact this⟩
      clear HA
      generalize hcx : (Utf8.decode a0 pos).1 = c at *
      clear hcx
      generalize (Utf8.decode a0 pos).2 = wd at *
      by_cases hodd : k % 2 = 1
      · have ho1 : ((k : Int) % 2 == 1) = true := by rw [beq_iff_eq]; omega
        by_cases h1 : last = a1
        · have hb1 : (last == a1) = true := by rw [beq_iff_eq]; exact h1
          have he := HA2.out
          rw [if_pos ⟨hodd, h1⟩] at he
          simp only [Prod.mk.injEq] at he
          obtain ⟨rfl, rfl⟩ := he
          clear h1 HA2 hodd
          go_wp2
          go_ret2
          exact ⟨rfl, hbw2⟩
        · have hb1 : (last == a1) = false := by rw [beq_eq_false_iff_ne]; exact h1
          by_cases h2 : (c : Int) = a1
          · have hb2 : ((c : Int) == a1) = true := by rw [beq_iff_eq]; exact h2
            have he := HA2.out
            rw [if_neg (fun h => h1 h.2), if_pos ⟨hodd, h2⟩] at he
            simp only [Prod.mk.injEq] at he
            obtain ⟨rfl, rfl⟩ := he
            clear h1 h2 HA2 hodd
            go_wp2
            go_ret2
            exact ⟨rfl, hbw2⟩
          · have hb2 : ((c : Int) == a1) = false := by rw [beq_eq_false_iff_ne]; exact h2
            have he := Aside0.mk (show otherL a1 (decFrom a0 f (pos + wd)) (c : Int) (k + 1) = (r1, r2) by
              have he := HA2.out
              rw [if_neg (fun h => h1 h.2), if_neg (fun h => h2 h.2)] at he
              exact he)
            clear h1 h2 HA2 hodd
            go_wp2
            go_roundw
            case rel => exact ⟨pos + wd, f, k + 1, (c : Int), rfl, by go_num, by omega, by omega, HI2.out, hbw2, he, by omega, by omega⟩
            case measure =>
              simp only [World.iterPos, HI2.out, HIT.out]
              omega
      · have ho1 : ((k : Int) % 2 == 1) = false := by rw [beq_eq_false_iff_ne]; omega
        have he := Aside0.mk (show otherL a1 (decFrom a0 f (pos + wd)) (c : Int) (k + 1) = (r1, r2) by
          have he := HA2.out
          rw [if_neg (fun h => hodd h.1), if_neg (fun h => hodd h.1)] at he
          exact he)
        clear HA2 hodd
        go_wp2
        go_roundw
        case rel => exact ⟨pos + wd, f, k + 1, (c : Int), rfl, by go_num, by omega, by omega, HI2.out, hbw2, he, by omega, by omega⟩
        case measure =>
          simp only [World.iterPos, HI2.out, HIT.out]
          omega
    · have hnx : ∀ ty, (Instr.next (.pointer (some ⟨w.heap.size, 0, none⟩)) true ty).run Try.prog wr = _ := fun ty => Lib.run_next_end_at wr w.heap.size a0 pos ty hit hp
      have he := HA.out
      rw [decFrom_end a0 fuel pos hp] at he
      simp only [otherL, Prod.mk.injEq] at he
      obtain ⟨rfl, rfl⟩ := he
      go_wp2
      go_ret2
      exact ⟨rfl, hbw⟩
end Go.Proofs.Ytplnaannfnhhgab.F
