/- Package cmap: a group of form 12 or 13, walked. -/
import Derived.Test.YtebmfbfmdbimdaaCmap3
namespace Go.Proofs.Ytebmfbfmdbimdaa.F
open Go.RowKit Go.Proofs.YtebmfbfmdbimdaaW.PrintWords Go.Proofs.YtebmfbfmdbimdaaW.PrintLast Go.Proofs.YtebmfbfmdbimdaaW.PrintMore Go.Proofs.Ytebmfbfmdbimdaa.rowQ
set_option linter.unusedVariables false
set_option linter.unusedSimpArgs false
/-- What a closure of subtable finds: the reader, the map. -/
structure Cw (w0 : World) (g h m p : Nat) (A : Option Addr) (c : Nat) (l : List Int) (f G : Int) (w : World) : Prop where
  rd : Rd w0 g p A c l w
  ptr : w.heap[h]? = some (.cells #[.pointer (some ⟨m, 0, none⟩)] 57 (0, 0))
  map : w.heap[m]? = some (.cells #[.int .i64 f, .int .i64 G, .slice none 0 0, .nilFunc, .slice none 0 0] 93 (0, 0))
section
variable {w0 w w' w'' : World} {g h m p : Nat} {A : Option Addr} {c : Nat} {l : List Int} {f G : Int}
theorem Cw.below (x : Cw w0 g h m p A c l f G w) (hb : Below w.heap.size w w') : Cw w0 g h m p A c l f G w' := ⟨x.rd.below hb, blk_below x.ptr hb, blk_below x.map hb⟩
theorem Cw.cells (x : Cw w0 g h m p A c l f G w) : w.cell? ⟨g, 0, none⟩ = some (.pointer (some ⟨p, 0, none⟩)) ∧ w.cell? ⟨h, 0, none⟩ = some (.pointer (some ⟨m, 0, none⟩)) ∧ w.cell? ⟨m, 0, none⟩ = some (.int .i64 f) ∧ w.cell? ⟨m, 1, none⟩ = some (.int .i64 G) :=
  ⟨x.rd.cell, (blk_cell x.ptr 0).trans rfl, (blk_cell x.map 0).trans rfl, (blk_cell x.map 1).trans rfl⟩
def CS (w0 : World) (g h m p : Nat) (A : Option Addr) (c : Nat) (l : List Int) (f G : Int) (w' : World) : Prop :=
  w'.cell? ⟨g, 0, none⟩ = some (.pointer (some ⟨p, 0, none⟩)) ∧ w'.cell? ⟨h, 0, none⟩ = some (.pointer (some ⟨m, 0, none⟩)) ∧ w'.cell? ⟨m, 0, none⟩ = some (.int .i64 f) ∧ Aside0 (Cw w0 g h m p A c l f G w')
theorem ckeep (x : Aside0 (Cw w0 g h m p A c l f G w')) (hb : Below w'.heap.size w' w'') : w''.cell? ⟨g, 0, none⟩ = some (.pointer (some ⟨p, 0, none⟩)) ∧ w''.cell? ⟨h, 0, none⟩ = some (.pointer (some ⟨m, 0, none⟩)) ∧ w''.cell? ⟨m, 0, none⟩ = some (.int .i64 f) ∧ Aside0 (Cw w0 g h m p A c l f G w'') :=
  ⟨(x.out.below hb).cells.1, (x.out.below hb).cells.2.1, (x.out.below hb).cells.2.2.1, ⟨x.out.below hb⟩⟩
theorem ckeep2 (x : w'.cell? ⟨g, 0, none⟩ = some (.pointer (some ⟨p, 0, none⟩)) ∧ w'.cell? ⟨h, 0, none⟩ = some (.pointer (some ⟨m, 0, none⟩)) ∧ w'.cell? ⟨m, 0, none⟩ = some (.int .i64 f) ∧ Aside0 (Cw w0 g h m p A c l f G w')) (hb : Below w'.heap.size w' w'') : w''.cell? ⟨g, 0, none⟩ = some (.pointer (some ⟨p, 0, none⟩)) ∧ w''.cell? ⟨h, 0, none⟩ = some (.pointer (some ⟨m, 0, none⟩)) ∧ w''.cell? ⟨m, 0, none⟩ = some (.int .i64 f) ∧ Aside0 (Cw w0 g h m p A c l f G w'') := ckeep x.2.2.2 hb
theorem cset (x : Aside0 (Cw w0 g h m p A c l f G w0)) (hb : Below w0.heap.size w0 w'') : w''.cell? ⟨g, 0, none⟩ = some (.pointer (some ⟨p, 0, none⟩)) ∧ w''.cell? ⟨h, 0, none⟩ = some (.pointer (some ⟨m, 0, none⟩)) ∧ w''.cell? ⟨m, 0, none⟩ = some (.int .i64 f) ∧ Aside0 (Cw w0 g h m p A c l f G w'') := ckeep x hb
theorem new_held {o : Obj} (x : w'.cell? ⟨g, 0, none⟩ = some (.pointer (some ⟨p, 0, none⟩)) ∧ w'.cell? ⟨h, 0, none⟩ = some (.pointer (some ⟨m, 0, none⟩)) ∧ w'.cell? ⟨m, 0, none⟩ = some (.int .i64 f) ∧ Aside0 (Cw w0 g h m p A c l f G w')) (hb : Below (w'.alloc o).heap.size (w'.alloc o) w'') : w0.heap.size ≤ w'.heap.size ∧ w''.heap[w'.heap.size]? = some o :=
  ⟨x.2.2.2.out.rd.bel.size, blk_below (blk_new _ _) hb⟩
theorem new_held3 {o : Obj} (hb : Below ((w0.alloc o).drew).heap.size ((w0.alloc o).drew) w'') : w0.heap.size ≤ w0.heap.size ∧ w''.heap[w0.heap.size]? = some o := ⟨Nat.le_refl _, blk_below (w := (w0.alloc o).drew) (blk_new w0 o) hb⟩
theorem new_held2 {b B : Nat} {o : Obj} (x : B ≤ b ∧ w'.heap[b]? = some o) (hb : Below w'.heap.size w' w'') : B ≤ b ∧ w''.heap[b]? = some o := ⟨x.1, blk_below x.2 hb⟩
theorem held_cw (x : w'.cell? ⟨g, 0, none⟩ = some (.pointer (some ⟨p, 0, none⟩)) ∧ w'.cell? ⟨h, 0, none⟩ = some (.pointer (some ⟨m, 0, none⟩)) ∧ w'.cell? ⟨m, 0, none⟩ = some (.int .i64 f) ∧ Aside0 (Cw w0 g h m p A c l f G w')) : Cw w0 g h m p A c l f G w' := x.2.2.2.out
end
end Go.Proofs.Ytebmfbfmdbimdaa.F
