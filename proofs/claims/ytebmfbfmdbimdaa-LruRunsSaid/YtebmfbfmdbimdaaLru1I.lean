/- The links of package lru's cache, walked: an entry unlinked, an entry put first (keys: int). -/
import Derived.Test.YtebmfbfmdbimdaaLru0I
import Derived.Handy
namespace Go.Proofs.Ytebmfbfmdbimdaa.F.Li
open Go.RowKit Go.Proofs.YtebmfbfmdbimdaaW.PrintWords Go.Proofs.YtebmfbfmdbimdaaW.PrintLast Go.Proofs.YtebmfbfmdbimdaaW.PrintMore
set_option linter.unusedVariables false
set_option linter.unusedSimpArgs false
/-- What is not in S is as it was. -/
structure Fr (S : Nat → Prop) (w w' : World) : Prop where
  os : w'.os = w.os
  tape : w'.tape = w.tape
  output : w'.output = w.output
  size : w.heap.size ≤ w'.heap.size
  block : ∀ k, k < w.heap.size → ¬ S k → w'.heap[k]? = w.heap[k]?
theorem Fr.refl (S : Nat → Prop) (w : World) : Fr S w w := ⟨rfl, rfl, rfl, Nat.le_refl _, fun _ _ _ => rfl⟩
theorem Fr.trans {S S' : Nat → Prop} {a b c : World} (h : Fr S a b) (k : Fr S' b c) (hs : ∀ i, i < a.heap.size → S' i → S i) : Fr S a c :=
  ⟨k.os.trans h.os, k.tape.trans h.tape, k.output.trans h.output, Nat.le_trans h.size k.size, fun i hi hn => (k.block i (Nat.lt_of_lt_of_le hi h.size) (fun hh => hn (hs i hi hh))).trans (h.block i hi hn)⟩
theorem Fr.mono {S S' : Nat → Prop} {a b : World} (h : Fr S a b) (hs : ∀ i, S i → S' i) : Fr S' a b := ⟨h.os, h.tape, h.output, h.size, fun i hi hn => h.block i hi (fun hh => hn (hs i hh))⟩
theorem Fr.set {S : Nat → Prop} {a b : World} (h : Fr S a b) {p : Addr} (hp : S p.block) (v : Value) : Fr S a (b.setCell p v) :=
  ⟨h.os, h.tape, h.output, by simpa [World.setCell] using h.size, fun i hi hn => (Below.heap_setCell b p v i (fun he => hn (he ▸ hp))).trans (h.block i hi hn)⟩
theorem Fr.drewN {S : Nat → Prop} {a b : World} (h : Fr S a b) (n : Nat) : Fr S a (b.drewN n) := ⟨h.os, h.tape, h.output, h.size, h.block⟩
theorem Fr.drew {S : Nat → Prop} {a b : World} (h : Fr S a b) : Fr S a b.drew := ⟨h.os, h.tape, h.output, h.size, h.block⟩
theorem Fr.alloc {S : Nat → Prop} {a b : World} (h : Fr S a b) (o : Obj) : Fr S a (b.alloc o) :=
  ⟨h.os, h.tape, h.output, Nat.le_trans h.size (by simp), fun i hi hn => (Below.heap_alloc b o i (Nat.lt_of_lt_of_le hi h.size)).trans (h.block i hi hn)⟩
theorem Fr.map {S : Nat → Prop} {a b b' : World} {m : Nat} (h : Fr S a b) (ht : b.mapTurned b' m) (hm : S m) : Fr S a b' := by
  have hg := ht.grown
  exact ⟨hg.os.trans h.os, hg.tape.trans h.tape, hg.output.trans h.output, Nat.le_trans h.size hg.size, fun i hi hn => (hg.block i (Nat.lt_of_lt_of_le hi h.size) (fun he => hn (by cases he; exact hm))).trans (h.block i hi hn)⟩
/-- The blocks of the ring's nodes. -/
def Sn (c : Nat) (L : List Ent) (k : Nat) : Prop := k = c ∨ ∃ e ∈ L, e.b = k
section
variable {w : World} {c m : Nat} {E B H : Int} {L : List Ent} {o n : Nat → Nat}
theorem Nodes.drew (h : Nodes w c m E B H L o n) : Nodes w.drew c m E B H L o n := ⟨h.cb, h.eb⟩
theorem Nodes.drewN (h : Nodes w c m E B H L o n) (k : Nat) : Nodes (w.drewN k) c m E B H L o n := ⟨h.cb, h.eb⟩
theorem Nodes.lt (h : Nodes w c m E B H L o n) {k : Nat} (hk : Sn c L k) : k < w.heap.size := by
  rcases hk with rfl | ⟨e, he, rfl⟩
  · exact blk_lt h.cb
  · exact blk_lt (h.eb e he).2
end
set_option maxRecDepth 100000 in
set_option maxHeartbeats 2000000 in
theorem unlink.calls {w : World} {c m : Nat} {E B H : Int} {L : List Ent} {o n : Nat → Nat} (h : Nodes w c m E B H L o n) {e : Ent} (he : e ∈ L) (h3 : Sn c L (n e.b)) (h4 : Sn c L (o e.b)) :
    Calls Try.prog 37 #[.pointer (some ⟨e.b, 0, none⟩)] w fun x w' => x = .returned (.tuple #[]) ∧ Nodes w' c m E B H L (upd o (n e.b) (o e.b)) (upd n (o e.b) (n e.b)) ∧ Fr (Sn c L) w w' := by
  have hb := (h.eb e he).2
  have c3 : w.cell? ⟨e.b, 3, none⟩ = some (.pointer (some ⟨n e.b, off c (n e.b), none⟩)) := (blk_cell hb 3).trans rfl
  have c4 : w.cell? ⟨e.b, 4, none⟩ = some (.pointer (some ⟨o e.b, off c (o e.b), none⟩)) := (blk_cell hb 4).trans rfl
  have ha := h.at4 h3
  obtain ⟨g1, g2⟩ := ha
  have h' := h.older (n e.b) (o e.b)
  have hb' := h'.at3 h4
  have h'' := h'.newer (o e.b) (n e.b)
  have hf : Fr (Sn c L) w ((w.setCell ⟨n e.b, off c (n e.b) + 4, none⟩ (ptr c (o e.b))).setCell ⟨o e.b, off c (o e.b) + 3, none⟩ (ptr c (n e.b))) := ((Fr.refl _ w).set h3 _).set h4 _
  unfold ptr at g1 hb' h'' hf
  obtain ⟨g3, g4⟩ := hb'
  have HN := Aside0.mk h''
  have HF := Aside0.mk hf
  clear h h' h'' hf hb he
  generalize off c (n e.b) = no at *
  generalize off c (o e.b) = oo at *
  generalize hnb : n e.b = nb at *
  generalize hob : o e.b = ob at *
  clear h3 h4 hnb hob
  go_enter Try.func37, Try.ntmps37
  go_region
  all_goals go_wp2
  all_goals go_returns
  all_goals exact ⟨rfl, HN.out.drew, HF.out.drew⟩
set_option maxRecDepth 100000 in
set_option maxHeartbeats 2000000 in
theorem use.calls {w : World} {c m : Nat} {E B H : Int} {L : List Ent} {o n : Nat → Nat} (h : Nodes w c m E B H L o n) {e : Ent} (he : e ∈ L) (h4 : Sn c L (o c)) :
    Calls Try.prog 36 #[.pointer (some ⟨c, 0, none⟩), .pointer (some ⟨e.b, 0, none⟩)] w fun x w' => x = .returned (.tuple #[]) ∧ Nodes w' c m E B H L (upd (upd o e.b (o c)) c e.b) (upd (upd n e.b c) (o c) e.b) ∧ Fr (Sn c L) w w' := by
  have hb := (h.eb e he).2
  have hne := (h.eb e he).1
  have c5 : w.cell? ⟨c, 5, none⟩ = some (.pointer (some ⟨o c, off c (o c), none⟩)) := (blk_cell h.cb 5).trans rfl
  have d3 : w.cell? ⟨e.b, 3, none⟩ = some (ptr c (n e.b)) := (blk_cell hb 3).trans rfl
  have f3 := blk_frozen hb 3
  have hse : Sn c L e.b := .inr ⟨e, he, rfl⟩
  have h1 := h.newer e.b c
  have hb1 := (h1.eb e he).2
  have d4 := (blk_cell hb1 4).trans rfl
  have f4 := blk_frozen hb1 4
  have h2 := h1.older e.b (o c)
  have hf2 := ((Fr.refl (Sn c L) w).set (p := ⟨e.b, off c e.b + 3, none⟩) hse (ptr c c)).set (p := ⟨e.b, off c e.b + 4, none⟩) hse (ptr c (o c))
  rw [off_e hne] at h1 hb1 d4 f4 h2 hf2
  rw [Nat.zero_add] at d4 f4 h2 hf2
  rw [Nat.zero_add] at h2 hf2
  unfold ptr at d3 d4 h2 hf2 f4
  rw [off_c] at d4 h2 hf2 f4
  have HN2 := Aside0.mk h2.drew
  have HF2 := Aside0.mk hf2.drew
  have HE := Aside0.mk he
  have H4 := Aside0.mk h4
  have HNE := Aside0.mk hne
  have HSE := Aside0.mk hse
  clear h h1 h2 hf2 hb1 hb he h4 hne hse
  go_enter Try.func36, Try.ntmps36
  go_wp2
  go_region
  all_goals (
    generalize World.drew _ = w1 at HN2 HF2 ⊢
    have b2 := (HN2.out.eb e HE.out).2
    have e4 : w1.cell? ⟨e.b, 4, none⟩ = some (.pointer (some ⟨o c, off c (o c), none⟩)) := (blk_cell b2 4).trans (by simp only [upd_same]; rfl)
    have a3 := HN2.out.at3 H4.out
    have h3 := HN2.out.newer (o c) e.b
    have g5 := h3.at4 (.inl rfl)
    have h4 := h3.older c e.b
    have f4 := (HF2.out.set (p := ⟨o c, off c (o c) + 3, none⟩) H4.out (ptr c e.b)).set (p := ⟨c, off c c + 4, none⟩) (.inl rfl) (ptr c e.b)
    unfold ptr at a3 g5 h4 f4
    rw [off_c, off_e HNE.out] at g5 h4 f4
    rw [show 1 + 4 = 5 from rfl] at g5 h4 f4
    obtain ⟨a31, a32⟩ := a3
    obtain ⟨g51, g52⟩ := g5
    have HN4 := Aside0.mk h4
    have HF4 := Aside0.mk f4
    clear HN2 HF2 h3 h4 f4 b2 d3 c5 d4 f3 H4 HE HNE HSE
    generalize off c (o c) = oo at *
    generalize hob : o c = ob at *
    have HOB := Aside0.mk hob
    clear hob
    go_wp2
    go_returns
    rw [HOB.out]
    exact ⟨rfl, HN4.out, HF4.out⟩)
end Go.Proofs.Ytebmfbfmdbimdaa.F.Li
