/- Package lru's cache: bounds, clear, new, what it holds (keys: string). -/
import Derived.Test.YtebmfbfmdbimdaaLru5S
import Derived.LaidEqlPtr
namespace Go.Proofs.Ytebmfbfmdbimdaa.F.Ls
open Go.RowKit Go.Proofs.YtebmfbfmdbimdaaW.PrintWords Go.Proofs.YtebmfbfmdbimdaaW.PrintLast Go.Proofs.YtebmfbfmdbimdaaW.PrintMore
set_option linter.unusedVariables false
set_option linter.unusedSimpArgs false
set_option maxRecDepth 100000 in
set_option maxHeartbeats 4000000 in
theorem limit_no {w : World} {c : Nat} (E' B' : Int) (hno : E' < 0 ∨ B' < 0) :
    Calls Try.prog 47 #[.pointer (some ⟨c, 0, none⟩), .int .i64 E', .int .i64 B'] w fun x w' => x = .returned (.int .i64 235) ∧ w' = w := by
  have hh : decide (E' < 0) = true ∨ (decide (E' < 0) = false ∧ decide (B' < 0) = true) := by
    simp only [decide_eq_true_eq, decide_eq_false_iff_not]
    omega
  clear hno
  rcases hh with h1 | ⟨h1, h2⟩
  all_goals
    go_enter Try.func47, Try.ntmps47
    go_wp2
    go_returns
    exact ⟨rfl, rfl⟩
set_option maxRecDepth 100000 in
set_option maxHeartbeats 4000000 in
theorem limit_yes {w : World} {c m : Nat} {E B : Int} {L : List Ent} (h : Own w c m E B L) (E' B' : Int) (h1 : 0 ≤ E') (h2 : 0 ≤ B') (h3 : E' ≤ 9223372036854775807) (h4 : B' ≤ 9223372036854775807) :
    Calls Try.prog 47 #[.pointer (some ⟨c, 0, none⟩), .int .i64 E', .int .i64 B'] w fun x w' => x = .returned (.int .i64 0) ∧ Own w' c m E' B' (shr E' B' L.length L) ∧ Fr (Sb c m L) w w' := by
  obtain ⟨o, n, hN, hR⟩ := h.nodes
  have c6 : w.cell? ⟨c, 6, none⟩ = some (.int .i64 E) := (blk_cell hN.cb 6).trans rfl
  have f6 := blk_frozen hN.cb 6
  have hN1 := hN.entries E'
  have c7 : (w.setCell ⟨c, 6, none⟩ (.int .i64 E')).cell? ⟨c, 7, none⟩ = some (.int .i64 B) := (blk_cell hN1.cb 7).trans rfl
  have f7 := blk_frozen hN1.cb 7
  have hN2 := hN1.bytes B'
  have hmc : m ≠ c := h.map.ne hN.cb
  have HO := fun (W : World) (hW : W.heap = ((w.setCell ⟨c, 6, none⟩ (.int .i64 E')).setCell ⟨c, 7, none⟩ (.int .i64 B')).heap) =>
    (⟨⟨o, n, hN2.keep (by rw [hW]) (fun e _ => by rw [hW]), hR⟩, h.nd, h.kn, h.map.keep (by rw [hW, Below.heap_setCell _ _ _ _ hmc, Below.heap_setCell _ _ _ _ hmc]), h.pos, h.big⟩ : Own W c m E' B' L)
  have HS := Aside0.mk (fun (W : World) (hW : W.heap = ((w.setCell ⟨c, 6, none⟩ (.int .i64 E')).setCell ⟨c, 7, none⟩ (.int .i64 B')).heap) => shrink.calls (HO W hW) 0 0 (by omega) h1 (by omega) h2 h3 h4)
  have HF := Aside0.mk ((((Fr.refl (Sb c m L) w).set (p := ⟨c, 6, none⟩) (.inr (.inl rfl)) (.int .i64 E')).set (p := ⟨c, 7, none⟩) (.inr (.inl rfl)) (.int .i64 B')))
  have e1 : decide (E' < 0) = false := by simpa using h1
  have e2 : decide (B' < 0) = false := by simpa using h2
  clear h hN hR hN1 hN2 h1 h2 h3 h4 hmc HO
  go_enter Try.func47, Try.ntmps47
  go_wp2_with (go_at_call 49; (with_reducible refine (HS.out _ rfl).mono ?_); rintro x w1 ⟨rfl, h1, hF⟩; rw [Int.sub_zero, Int.sub_zero] at h1; have HO := Aside0.mk h1; have HF1 := Aside0.mk hF; clear h1 hF HS)
  go_returns
  exact ⟨rfl, HO.out, HF.out.trans HF1.out (fun _ _ hh => hh)⟩
/-- The blocks that a call may turn: those that it is told of; what it makes lies above. -/
theorem Fr.below {S : Nat → Prop} {w w' : World} (h : Fr S w w') {base : Nat} (hS : ∀ i, S i → base ≤ i) (hb : base ≤ w.heap.size) : Below base w w' :=
  ⟨h.os, h.tape, h.output, h.size, fun i hi => h.block i (by omega) (fun hh => by have := hS i hh; omega)⟩
set_option maxRecDepth 100000 in
set_option maxHeartbeats 4000000 in
theorem clear.calls {w : World} {c : Nat} {E B H : Int} {x0 x4 x5 : Value} (h : w.heap[c]? = some (.cells #[x0, .string ByteArray.empty, .int .i64 0, .int .i64 0, x4, x5, .int .i64 E, .int .i64 B, .int .i64 H] 105 (0, 0))) :
    Calls Try.prog 46 #[.pointer (some ⟨c, 0, none⟩)] w fun x w' => x = .returned (.tuple #[]) ∧ Own w' c w.heap.size E B [] ∧ Fr (· = c) w w' := by
  have hcl := blk_lt h
  have hmm := @run_makeMap Try.prog
  have c0 : w.cell? ⟨c, 0, none⟩ = some x0 := (blk_cell h 0).trans rfl
  have f0 := blk_frozen h 0
  have c4 : w.cell? ⟨c, 4, none⟩ = some x4 := (blk_cell h 4).trans rfl
  have f4 := blk_frozen h 4
  have c5 : w.cell? ⟨c, 5, none⟩ = some x5 := (blk_cell h 5).trans rfl
  have f5 := blk_frozen h 5
  have c8 : w.cell? ⟨c, 8, none⟩ = some (.int .i64 H) := (blk_cell h 8).trans rfl
  have f8 := blk_frozen h 8
  have HG := Aside0.mk h
  have HCL := Aside0.mk hcl
  clear h
  go_enter Try.func46, Try.ntmps46
  go_wp2
  go_region
  all_goals go_wp2
  all_goals go_returns
  have hsz : (((((w.setCell ⟨c, 0, none⟩ (.map (some w.heap.size))).setCell ⟨c, 4, none⟩ (.pointer (some ⟨c, 1, none⟩))).setCell ⟨c, 5, none⟩ (.pointer (some ⟨c, 1, none⟩))).setCell ⟨c, 8, none⟩ (.int .i64 0))).heap.size = w.heap.size := by simp [World.setCell]
  have hb := blk_drew (blk_alloc (blk_set (blk_set (blk_set (blk_set HG.out 0 (.map (some w.heap.size))) 4 (.pointer (some ⟨c, 1, none⟩))) 5 (.pointer (some ⟨c, 1, none⟩))) 8 (.int .i64 0)) (.map #[] 0))
  have hm := MapOf.made (((((w.setCell ⟨c, 0, none⟩ (.map (some w.heap.size))).setCell ⟨c, 4, none⟩ (.pointer (some ⟨c, 1, none⟩))).setCell ⟨c, 5, none⟩ (.pointer (some ⟨c, 1, none⟩))).setCell ⟨c, 8, none⟩ (.int .i64 0)))
  rw [hsz] at hm
  have hp : ptr c c = .pointer (some ⟨c, 1, none⟩) := by rw [ptr, off_c]
  refine ⟨rfl, ⟨⟨fun _ => c, fun _ => c, ⟨hb.trans (by rw [hp]; rfl), fun e he => by simp at he⟩, ?_⟩, by simp, by simp, hm.keep rfl, fun e he => by simp at he, by simp [tot]⟩, ?_⟩
  · show Chn _ _ [c, c]
    exact ⟨fun y hy => ⟨by simpa using hy, rfl⟩, fun y hy => by simp at hy, trivial⟩
  · exact (((((Fr.refl (fun x => x = c) w).set (p := ⟨c, 0, none⟩) rfl _).set (p := ⟨c, 4, none⟩) rfl _).set (p := ⟨c, 5, none⟩) rfl _).set (p := ⟨c, 8, none⟩) rfl _).alloc _ |>.drew
set_option maxRecDepth 100000 in
set_option maxHeartbeats 4000000 in
theorem new_yes {w : World} (E B : Int) (h1 : 0 ≤ E) (h2 : 0 ≤ B) (h3 : E ≤ 9223372036854775807) (h4 : B ≤ 9223372036854775807) :
    Calls Try.prog 31 #[.int .i64 E, .int .i64 B] w fun x w' => ∃ c m, x = .returned (.tuple #[.pointer (some ⟨c, 0, none⟩), .int .i64 0]) ∧ w.heap.size ≤ c ∧ w.heap.size ≤ m ∧ Own w' c m E B [] ∧ Below w.heap.size w w' := by
  have HC := Aside0.mk (fun (W : World) (c : Nat) (hb : W.heap[c]? = some (.cells #[.map none, .string ByteArray.empty, .int .i64 0, .int .i64 0, .pointer none, .pointer none, .int .i64 0, .int .i64 0, .int .i64 0] 105 (0, 0))) => clear.calls hb)
  have HL := Aside0.mk (fun (W : World) (c m : Nat) (h : Own W c m 0 0 []) => limit_yes h E B h1 h2 h3 h4)
  clear h1 h2 h3 h4
  go_enter Try.func31, Try.ntmps31
  go_wp2_with (first | (go_at_call 46; refine (HC.out _ _ (blk_new _ _)).mono ?_; rintro x w1 ⟨rfl, h1, hF⟩; have HO := Aside0.mk h1; have HF := Aside0.mk hF; clear h1 hF) | (go_at_call 47; refine (HL.out _ _ _ HO.out).mono ?_; rintro x w2 ⟨rfl, h1, hF⟩; have HO2 := Aside0.mk h1; have HF2 := Aside0.mk hF; clear h1 hF))
  go_ret2
  have e1 := HO2.out
  rw [shr_nil] at e1
  have hsz : (w.alloc (.cells #[.map none, .string ByteArray.empty, .int .i64 0, .int .i64 0, .pointer none, .pointer none, .int .i64 0, .int .i64 0, .int .i64 0] 105)).heap.size = w.heap.size + 1 := by simp
  refine ⟨w.heap.size, _, rfl, Nat.le_refl _, ?_, e1, ?_⟩
  · rw [hsz]; omega
  · have b0 : Below w.heap.size w (w.alloc (.cells #[.map none, .string ByteArray.empty, .int .i64 0, .int .i64 0, .pointer none, .pointer none, .int .i64 0, .int .i64 0, .int .i64 0] 105)) := (Below.refl _ _).alloc (Nat.le_refl _) _
    have b1 := HF.out.below (base := w.heap.size) (fun i hi => by rw [hi]; exact Nat.le_refl _) (by rw [hsz]; omega)
    have b2 := HF2.out.below (base := w.heap.size) (fun i hi => by
      rcases hi with hi | hi | ⟨e, he, _⟩
      · rw [hi, hsz]; omega
      · rw [hi]; exact Nat.le_refl _
      · simp at he) (by have := HF.out.size; rw [hsz] at this; omega)
    exact (b0.trans b1).trans b2
set_option maxRecDepth 100000 in
set_option maxHeartbeats 4000000 in
theorem new_no {w : World} (E B : Int) (hno : E < 0 ∨ B < 0) :
    Calls Try.prog 31 #[.int .i64 E, .int .i64 B] w fun x w' => x = .returned (.tuple #[.pointer none, .int .i64 235]) ∧ Below w.heap.size w w' := by
  have HC := Aside0.mk (fun (W : World) (c : Nat) (hb : W.heap[c]? = some (.cells #[.map none, .string ByteArray.empty, .int .i64 0, .int .i64 0, .pointer none, .pointer none, .int .i64 0, .int .i64 0, .int .i64 0] 105 (0, 0))) => clear.calls hb)
  have HL := Aside0.mk (fun (W : World) (c : Nat) => limit_no (w := W) (c := c) E B hno)
  clear hno
  go_enter Try.func31, Try.ntmps31
  go_wp2_with (first | (go_at_call 46; refine (HC.out _ _ (blk_new _ _)).mono ?_; rintro x w1 ⟨rfl, h1, hF⟩; have HF := Aside0.mk hF; clear h1 hF) | (go_at_call 47; refine (HL.out _ _).mono ?_; rintro x w2 ⟨rfl, rfl⟩))
  go_ret2
  have b0 : Below w.heap.size w (w.alloc (.cells #[.map none, .string ByteArray.empty, .int .i64 0, .int .i64 0, .pointer none, .pointer none, .int .i64 0, .int .i64 0, .int .i64 0] 105)) := (Below.refl _ _).alloc (Nat.le_refl _) _
  exact ⟨rfl, b0.trans (HF.out.below (base := w.heap.size) (fun i hi => by rw [hi]; exact Nat.le_refl _) (by simp))⟩
theorem run_neq_ptr_same {P : Program} (w : World) {tp te : TypeId} {j : TypeInfo} (a : Addr) (hp : P.underlying tp = some (.pointer te)) (hte : P.info? te = some j) :
    (binOp .neq tp (.pointer (some a)) (.pointer (some a))).run P w = .ok (.bool false) w := by
  have h : ∀ d : Nat, (Op.equalIn (d + 1) tp (.pointer (some a)) (.pointer (some a))).run P w = .ok true w := fun d => by
    simp [Op.equalIn, run_underlying hp, sizeOf, typeInfo, hte, run_sameAddr_same]
  simp only [binOp]
  simp [Op.equal, Op.maxDepth, h 9999]
theorem run_neq_ptr_other {P : Program} (w : World) {tp te : TypeId} {j : TypeInfo} {a b : Addr} {ca cb : Array Value} {ta tb : TypeId} (hp : P.underlying tp = some (.pointer te)) (hte : P.info? te = some j) (hsz : j.size ≠ 0)
    (hne : a ≠ b) (ha : w.heap[a.block]? = some (.cells ca ta (0, 0))) (hb : w.heap[b.block]? = some (.cells cb tb (0, 0))) :
    (binOp .neq tp (.pointer (some a)) (.pointer (some b))).run P w = .ok (.bool true) w := by
  have h : ∀ d : Nat, (Op.equalIn (d + 1) tp (.pointer (some a)) (.pointer (some b))).run P w = .ok false w := fun d => by
    simp [Op.equalIn, run_underlying hp, sizeOf, typeInfo, hte, hsz, run_sameAddr_other w hne ha hb]
  simp only [binOp]
  simp [Op.equal, Op.maxDepth, h 9999]
theorem und_pent : Try.prog.underlying 101 = some (.pointer 103) := by kernel_rfl
theorem ent_info : ∃ j : TypeInfo, Try.prog.info? 103 = some j ∧ j.size ≠ 0 := by
  have h : (Try.prog.info? 103).map (·.size) = some 5 := by kernel_rfl
  obtain ⟨j, h1, h2⟩ := Option.map_eq_some_iff.1 h
  exact ⟨j, h1, by omega⟩
theorem chn_at {o n : Nat → Nat} {x y : Nat} {l2 : List Nat} : ∀ {l1 : List Nat}, Chn o n (l1 ++ x :: y :: l2) → o x = y
  | [], h => (h.1 y rfl).1
  | z :: l1, h => chn_at (l1 := l1) h.2
set_option maxRecDepth 100000 in
set_option maxHeartbeats 8000000 in
theorem keys.calls {w : World} {c m : Nat} {E B : Int} {L : List Ent} (h : Own w c m E B L) (hl : L.length * 16 ≤ 140737488355328) :
    Calls Try.prog 34 #[.pointer (some ⟨c, 0, none⟩)] w fun x w' => ∃ v, x = .returned v ∧ w'.ownsRow w.heap.size 9 1 v (L.map (fun e => kv e.k)).length (L.map (fun e => kv e.k)) ∧ Below w.heap.size w w' := by
  obtain ⟨o, n, hN, hR⟩ := h.nodes
  have c5 : w.cell? ⟨c, 5, none⟩ = some (.pointer (some ⟨o c, off c (o c), none⟩)) := (blk_cell hN.cb 5).trans rfl
  have HN := Aside0.mk hN
  have HR := Aside0.mk hR
  have HL := Aside0.mk hl
  have hinfo : (Try.prog.info? 9).map (fun i => (i.zero, i.size, i.bytes)) = some (some (.string ByteArray.empty), 1, 16) := by kernel_rfl
  have HI := Aside0.mk hinfo
  clear h hN hR hl hinfo
  unfold kv
  go_enter Try.func34, Try.ntmps34
  go_wp2
  go_loopg [3, 4] L.length (fun gk v p wr => ∃ L1 L2 x, Aside0 (L = L1 ++ L2) ∧ Aside0 (L2.length = gk) ∧ p = .pointer (some ⟨x, off c x, none⟩) ∧ Aside0 (∃ t, L2.map Ent.b ++ [c] = x :: t) ∧ Aside0 (wr.ownsRow w.heap.size 9 1 v (L1.map (fun e => Value.string e.k)).length (L1.map (fun e => Value.string e.k))) ∧ Aside0 (Below w.heap.size w wr))
  case atStart =>
    refine ⟨[], L, o c, ⟨rfl⟩, ⟨rfl⟩, rfl, ⟨?_⟩, ⟨own_nil _ _ _ _⟩, ⟨Below.refl _ _⟩⟩
    have hR := HR.out
    unfold Ring at hR
    cases L with
    | nil => exact ⟨[], by rw [(hR.1 c rfl).1]; rfl⟩
    | cons e L => exact ⟨_, by rw [(hR.1 e.b rfl).1]; rfl⟩
  case round =>
    obtain ⟨L1, L2, x, HE, HG, rfl, HX, HO, HB⟩ := hrel
    obtain ⟨j, j1, j2⟩ := ent_info
    have J2 := Aside0.mk j2
    have J1 := Aside0.mk j1
    clear j1 j2
    have hcb := Aside0.mk ((HB.out.block c (blk_lt HN.out.cb)).trans HN.out.cb)
    cases L2 with
    | nil =>
      obtain ⟨t, hx⟩ := HX.out
      obtain rfl : c = x := by simpa using congrArg List.head? hx
      clear HX hx
      rw [off_c]
      have hq := run_neq_ptr_same wr (P := Try.prog) ⟨c, 1, none⟩ und_pent J1.out
      go_wp2
      go_returns
      have e1 := HE.out
      rw [List.append_nil] at e1
      refine ⟨_, rfl, ?_, HB.out⟩
      rw [e1]
      exact HO.out
    | cons e L2 =>
      obtain ⟨t, hx⟩ := HX.out
      obtain rfl : e.b = x := by simpa using congrArg List.head? hx
      clear HX hx
      have hmem : e ∈ L := by rw [HE.out]; simp
      have hne := (HN.out.eb e hmem).1
      have hlt := blk_lt (HN.out.eb e hmem).2
      have hb := (HB.out.block e.b hlt).trans (HN.out.eb e hmem).2
      have k0 : wr.cell? ⟨e.b, 0, none⟩ = some (Value.string e.k) := (blk_cell hb 0).trans rfl
      rw [off_e hne]
      have hq := run_neq_ptr_other wr (P := Try.prog) (a := ⟨e.b, 0, none⟩) (b := ⟨c, 1, none⟩) und_pent J1.out J2.out (by simp) hb hcb.out
      have HBL := Aside0.mk hb
      have HNE := Aside0.mk hne
      have HOE : Aside0 (∃ y t, o e.b = y ∧ L2.map Ent.b ++ [c] = y :: t) := ⟨by
        have hR := HR.out
        unfold Ring at hR
        rw [HE.out, List.map_append, List.map_cons, List.append_assoc, List.cons_append, ← List.cons_append] at hR
        cases L2 with
        | nil => exact ⟨_, _, chn_at (l1 := c :: L1.map Ent.b) hR, rfl⟩
        | cons e2 L2 => exact ⟨_, _, chn_at (l1 := c :: L1.map Ent.b) hR, rfl⟩⟩
      have HLen : Aside0 (((L1.map (fun e => Value.string e.k)).length + 1) * 16 ≤ 140737488355328) := ⟨by
        have h1 := HL.out
        rw [HE.out] at h1
        simp at h1 ⊢
        omega⟩
      have HLT := Aside0.mk hlt
      clear hb hne hlt hmem
      go_wp2_with (at_builtin; refine print_append (w0 := w) w.heap.size rfl (.tmp 19) (.tmp 24) 73 9 _ _ rfl Try.underlying73 HI.out rfl (by decide) u3 _ (Value.string e.k) rfl rfl rfl HO.out HB.out HB.out.size HLen.out ?_; intro v1 w1 ho hb hg hat; have hb1 := (hb.block e.b HLT.out).trans (HN.out.eb e (by rw [HE.out]; simp)).2; have k4 := (blk_cell hb1 4).trans rfl; have HO1 := Aside0.mk ho; have HB1 := Aside0.mk hb; clear ho hb hg hat hb1)
      go_roundg L2.length
      case rel =>
        obtain ⟨y, t, hy, ht⟩ := HOE.out
        rw [← hy] at ht
        refine ⟨L1 ++ [e], L2, o e.b, ⟨by rw [HE.out]; simp⟩, ⟨rfl⟩, rfl, ⟨t, ht⟩, ⟨?_⟩, HB1⟩
        rw [List.map_append]
        exact HO1.out
      case measure =>
        have := HG.out
        simp at this
        omega
end Go.Proofs.Ytebmfbfmdbimdaa.F.Ls
