/- What utf.Decode (a range over a string, an append a round) comes to: its plain function, and the proof that the Go code comes to it, for bytes of any length below 2^44. -/
import Derived.Test.YtplnaannfnhhgaaProg
import Derived.Test.YtplnaannfnhhgaaWMore
import Derived.Test.YtplnaannfnhhgaaWLast
import Derived.KernelRfl
import Derived.WalkKit
import Derived.Deep.LoopGhost
import Derived.Lib.OthersKept
namespace Go.Proofs.Ytplnaannfnhhgaa.F
open Go.RowKit Go.Proofs.YtplnaannfnhhgaaW.PrintWords Go.Proofs.YtplnaannfnhhgaaW.PrintLast Go.Proofs.YtplnaannfnhhgaaW.PrintMore
set_option linter.unusedVariables false

theorem info3 : (Try.prog.info? 3).map (fun i => (i.zero, i.size, i.bytes)) = some (some (.int .i64 0), 1, 8) := by kernel_rfl
/-- The codes that the bytes from place pos on write, at most so many. -/
def decFrom (s : ByteArray) : Nat → Nat → List Int
  | 0, _ => []
  | fuel + 1, pos => if pos < s.size then ((Utf8.decode s pos).1 : Int) :: decFrom s fuel (pos + (Utf8.decode s pos).2) else []
def utf_Decode.f (l0 : List Int) : Option (List Int) := if (decFrom (strOfNums l0) l0.length 0).length < 17592186044416 then some (decFrom (strOfNums l0) l0.length 0) else none

theorem width_pos (s : ByteArray) (pos : Nat) (h : pos < s.size) : 1 ≤ (Utf8.decode s pos).2 := by
  by_cases ha : (s[pos]'h).toNat < 128
  · rw [decode_ascii s pos h ha]
    exact Nat.le_refl _
  · exact (decode_high s pos h (by omega)).2
theorem decFrom_end (s : ByteArray) (fuel pos : Nat) (h : ¬ pos < s.size) : decFrom s fuel pos = [] := by
  cases fuel with
  | zero => rfl
  | succ f => simp [decFrom, h]
theorem strOfNums_size (l : List Int) : (strOfNums l).size = l.length := by
  show (strOfNums l).data.size = _
  simp [strOfNums]

/-- A row of the call's own while an iterator moves on. -/
theorem R_iterAt {α : Type} {d : Kd α} {e base : Nat} {ok : Nat → Prop} {w : World} {v : Value} {xs : List α} (h : d.R e w base ok v xs) {k : Nat} {s : ByteArray} {pos : Nat} (hk : w.heap[k]? = some (.stringIter s pos)) (pos' : Nat) :
    d.R e (w.iterAt k s pos') base ok v xs := by
  refine Kd.R_mono (Kd.R_move (Kd.R_bound h) (fun j hj => ?_)) (fun _ hj => hj.1)
  obtain ⟨_, _, _, q, _, cells, hc⟩ := hj
  refine Lib.iterAt_other w k j s pos' ?_
  rintro rfl
  rw [hk] at hc
  cases hc

set_option maxHeartbeats 4000000 in
set_option maxRecDepth 100000 in
theorem utf_Decode.calls (A0 : Option Addr) (c0 : Nat) (l0 : List Int) (r : List Int) (w : World) (hr0 : Kd.C (Kd.int .u8) w A0 l0.length l0) (hc0 : l0.length ≤ c0) (h : utf_Decode.f l0 = some r) :
    Calls Try.prog 17 #[.slice A0 l0.length c0] w fun e w' => ∃ v0_ : Value, e = .returned (v0_) ∧ Kd.R (Kd.int .i64) 3 w' w.heap.size (fun _ => True) v0_ r ∧ Below w.heap.size w w' := by
  have hlen : (decFrom (strOfNums l0) l0.length 0).length < 17592186044416 := by
    unfold utf_Decode.f at h
    split at h
    · assumption
    · cases h
  unfold utf_Decode.f at h
  rw [if_pos hlen] at h
  obtain rfl := Option.some.inj h
  clear h
  have hkc := Kd.C_string (P := Try.prog) (src := 22) (dst := 9) (e := 5) (c := c0) Try.underlying22 Try.underlying5 Try.underlying9 hr0
  have hsz : (strOfNums l0).size = l0.length := strOfNums_size l0
  clear hr0
  generalize hs : strOfNums l0 = s at *
  generalize hn : l0.length = n at *
  have HN := Aside0.mk hn
  have HS := Aside0.mk hs
  have HZ := Aside0.mk hsz
  have HL := Aside0.mk hlen
  clear hn hs hsz hlen
  go_enter Try.func17, Try.ntmps17
  go_wp2
  have HZ2 := HZ.out
  go_loopw [3] (fun v wr => ∃ (pos fuel : Nat) (acc : List Int), Aside0 (Kd.R (Kd.int .i64) 3 wr w.heap.size (fun _ => True) v acc) ∧ wr.heap[w.heap.size]? = some (.stringIter s pos) ∧ Below w.heap.size w wr ∧ Aside0 (acc ++ decFrom s fuel pos = decFrom s n 0) ∧ s.size ≤ pos + fuel) (fun _ wr => s.size - wr.iterPos w.heap.size)
  case atStart =>
    refine ⟨0, n, [], ⟨Kd.R_nil _ _ _ _ _⟩, ?_, (Below.refl _ w).alloc (Nat.le_refl _) _, ⟨rfl⟩, by omega⟩
    simpa using World.iter_heap w s 0
  case round =>
    obtain ⟨pos, fuel, acc, hI, hit, hbw, hacc, hfu⟩ := hrel
    have hsz : w.heap.size < wr.heap.size := (Array.getElem?_eq_some_iff.1 hit).1
    by_cases hp : pos < s.size
    · have hnx : ∀ ty, (Instr.next (.pointer (some ⟨w.heap.size, 0, none⟩)) true ty).run Try.prog wr = _ := fun ty => Lib.run_next_any_at wr w.heap.size s pos ty hit hp
      have hwd := width_pos s pos hp
      have hd1 := decode_le s pos
      have hI2 := Aside0.mk (R_iterAt hI.out hit (pos + (Utf8.decode s pos).2))
      have hit2 := Lib.iterAt_heap wr w.heap.size s pos (pos + (Utf8.decode s pos).2) hit
      have hbw2 := Lib.below_iterAt hbw (k := w.heap.size) (Nat.le_refl _) s (pos + (Utf8.decode s pos).2)
      have hsz2 : w.heap.size < (wr.iterAt w.heap.size s (pos + (Utf8.decode s pos).2)).heap.size := by rw [Lib.iterAt_size]; omega
      obtain ⟨f, rfl⟩ : ∃ f, fuel = f + 1 := ⟨fuel - 1, by omega⟩
      have hal : acc.length + 1 < 17592186044416 := by
        have := HL.out
        rw [← hacc.out] at this
        simp only [decFrom, hp, if_true, List.length_append, List.length_cons] at this
        omega
      go_wp2_with (at_builtin; refine Kd.R_append (Kd.int .i64) (w0 := w) w.heap.size rfl (.tmp 12) (.tmp 15) 25 3 (.int .i64 0) 8 rfl Try.underlying25 info3 rfl (by decide) (by omega) _ acc ((Utf8.decode s pos).1 : Int) [.int .i64 ((Utf8.decode s pos).1 : Int)] (fun _ => True) (fun _ => False) rfl rfl rfl (fun _ hk => hk.elim) (fun _ _ => trivial) hI2.out hbw2 (Nat.le_of_lt hsz2) (by omega) ?_)
      intro v1 w1 hR1 hB1 hG1 hA1
      have hit3 : w1.heap[w.heap.size]? = some (.stringIter s (pos + (Utf8.decode s pos).2)) := by
        refine (hG1.block w.heap.size hsz2 ?_).trans hit2
        intro hk
        obtain ⟨inner, ho⟩ := Kd.R_own hI2.out
        obtain ⟨cells, hc⟩ := own_typed ho _ hk.symm
        rw [hit2] at hc
        cases hc
      have HR1 := Aside0.mk hR1
      have HI3 := Aside0.mk hit3
      clear hR1 hit3 hG1 hA1
      go_wp2
      go_roundw
      case rel =>
        refine ⟨pos + (Utf8.decode s pos).2, f, acc ++ [((Utf8.decode s pos).1 : Int)], HR1, HI3.out, hB1, ⟨?_⟩, by omega⟩
        rw [← hacc.out]
        simp [decFrom, hp]
      case measure =>
        simp only [World.iterPos, HI3.out, hit]
        omega
    · have hnx : ∀ ty, (Instr.next (.pointer (some ⟨w.heap.size, 0, none⟩)) true ty).run Try.prog wr = _ := fun ty => Lib.run_next_end_at wr w.heap.size s pos ty hit hp
      go_wp2
      go_ret
      have ha := hacc.out
      rw [decFrom_end s fuel pos hp, List.append_nil] at ha
      subst ha
      exact ⟨_, rfl, hI.out, hbw⟩
end Go.Proofs.Ytplnaannfnhhgaa.F
