/- The law of whatever is done to a cache, walked. -/
import Derived.Test.YtebmfbfmdbimdaaLruRef4
import Derived.Test.YtebmfbfmdbimdaaLruKeeps
namespace Go.Proofs.Ytebmfbfmdbimdaa.F.Li
open Go.RowKit Go.Proofs.YtebmfbfmdbimdaaW.PrintWords Go.Proofs.YtebmfbfmdbimdaaW.PrintLast Go.Proofs.YtebmfbfmdbimdaaW.PrintMore Go.Proofs.Ytebmfbfmdbimdaa.rowQ Go.Proofs.Ytebmfbfmdbimdaa.R
set_option linter.unusedVariables false
set_option linter.unusedSimpArgs false
set_option maxRecDepth 100000 in
set_option maxHeartbeats 4000000 in
theorem runs_no (E B : Int) (A : Option Addr) (c : Nat) (l : List (List Int)) (w : World) (hno : E < 0 ∨ B < 0) :
    Calls Try.prog 5 #[.int .i64 E, .int .i64 B, .slice A l.length c] w fun e w' => e = .returned (.bool true) ∧ Below w.heap.size w w' := by
  have HA := Aside0.mk (fun (W : World) => Ls.alive.calls W)
  have HN := Aside0.mk (fun (W : World) => new_no (w := W) E B hno)
  have hh : (decide (E < 0) = true) ∨ (decide (E < 0) = false ∧ decide (B < 0) = true) := by
    simp only [decide_eq_true_eq, decide_eq_false_iff_not]
    omega
  clear hno
  rcases hh with h1 | ⟨h1, h2⟩
  all_goals
    go_enter Try.func5, Try.ntmps5
    go_wp2_with (first | (go_at_call 9; (with_reducible refine (HA.out _).mono ?_); rintro e w1 ⟨rfl, hb⟩; have HB1 := Aside0.mk hb; clear hb) | (go_at_call 10; (with_reducible refine (HN.out _).mono ?_); rintro e w2 ⟨rfl, hb⟩; have HB2 := Aside0.mk (HB1.out.trans (hb.mono HB1.out.size)); clear hb))
    go_ret
    exact ⟨rfl, HB2.out⟩
theorem OwnT.put3 {base : Nat} {w : World} {c g : Nat} {E B : Int} {T : List Tr} {x y z : Value} {ty : TypeId} (h : OwnT base w c E B T) (hg : w.heap[g]? = some (.cells #[x, y, z] ty (0, 0))) (h1 : ty ≠ 80) (h2 : ty ≠ 78) (a b d : Value) : OwnT base (((w.setCell ⟨g, 0, none⟩ a).setCell ⟨g, 1, none⟩ b).setCell ⟨g, 2, none⟩ d) c E B T :=
  ((h.set hg h1 h2 0 a).set (blk_set hg 0 a) h1 h2 1 b).set (blk_set (blk_set hg 0 a) 1 b) h1 h2 2 d
theorem append_num_at {P : Program} {ops : Array Oper} {rest : List Oper} {o : Oper} {a : Act} {Q : Exit → Act → World → Prop} {w0 W : World} (base N : Nat) (hgd : o.guard = none) (s x : Operand) (t e : TypeId) (k : IntKind) (bytes : Nat)
    (ho : o.op = .call { callee := .builtin .append, args := #[s, x], argTypes := #[t, t] })
    (ht : P.underlying t = some (.slice e)) (hinfo : (P.info? e).map (fun i => (i.zero, i.size, i.bytes)) = some (some (.int k 0), 1, bytes)) (hb0 : 0 < bytes)
    (v : Value) (xs : List Int) (y : Int) (hs : a.eval s = v) (hx : a.eval x = .slice (some ⟨N, 0, none⟩) 1 1) (hN : N = W.heap.size)
    (HO : W.ownsRow base e 1 v xs.length (nums k xs)) (HB : Below base w0 W) (hbase : base ≤ W.heap.size) (hl : (xs.length + 1) * bytes ≤ 140737488355328)
    (h : ∀ v1 w1, w1.ownsRow base e 1 v1 (xs ++ [y]).length (nums k (xs ++ [y])) → Below base w0 w1 → W.grownBy w1 v.ownBlock → (v1.ownBlock = v.ownBlock ∨ ∃ b, v1.ownBlock = some b ∧ W.heap.size ≤ b) → wpList P ops Q rest (a.put o.dst v1) w1) :
    wpList P ops Q (o :: rest) a (W.alloc (.cells #[.int k y] e)) := by
  subst hN
  exact print_append_num base hgd s x t e k bytes ho ht hinfo hb0 v xs y hs hx HO HB hbase hl h
/-- The document's cache, in the block gw, holds T within E and B; the program's, in block cc, To within Eo and Bo. -/
structure Wt (base gw cc : Nat) (w0 wr : World) (v : Value) (T : List Tr) (E B : Int) (To : List Tr) (Eo Bo : Int) : Prop where
  blk : wr.heap[gw]? = some (.cells #[v, .int .i64 E, .int .i64 B] 38 (0, 0))
  row : RL base wr v T
  own : OwnT base wr cc Eo Bo To
  bel : Below w0.heap.size w0 wr
  big : base ≤ wr.heap.size
  gwb : base ≤ gw
  b0 : w0.heap.size ≤ base
section
variable {base gw cc : Nat} {w0 wr w' : World} {v v' : Value} {T T' To To' : List Tr} {E B E' B' Eo Bo : Int}
theorem Wt.below (h : Wt base gw cc w0 wr v T E B To Eo Bo) (hb : Below wr.heap.size wr w') : Wt base gw cc w0 w' v T E B To Eo Bo :=
  ⟨blk_below h.blk hb, h.row.below hb, h.own.below hb, below_then h.bel h.bel.size hb, Nat.le_trans h.big hb.size, h.gwb, h.b0⟩
theorem Wt.alloc (h : Wt base gw cc w0 wr v T E B To Eo Bo) (o : Obj) : Wt base gw cc w0 (wr.alloc o) v T E B To Eo Bo := h.below (below_alloc (Below.refl _ _) o)
theorem Wt.drewN (h : Wt base gw cc w0 wr v T E B To Eo Bo) (q : Nat) : Wt base gw cc w0 (wr.drewN q) v T E B To Eo Bo := h.below (pw_below_drewN (Below.refl _ _) q)
theorem Wt.want (h : Wt base gw cc w0 wr v T E B To Eo Bo) (hr : RL base wr v' T') (E' B' : Int) : Wt base gw cc w0 (((wr.setCell ⟨gw, 0, none⟩ v').setCell ⟨gw, 1, none⟩ (.int .i64 E')).setCell ⟨gw, 2, none⟩ (.int .i64 B')) v' T' E' B' To Eo Bo :=
  ⟨put3_same h.blk _ _ _, hr.put3 h.blk (by decide) _ _ _, h.own.put3 h.blk (by decide) (by decide) _ _ _, below_put3 h.bel (Nat.le_trans h.b0 h.gwb) _ _ _, (by simpa [World.setCell] using h.big), h.gwb, h.b0⟩
theorem Wt.want0 (h : Wt base gw cc w0 wr v T E B To Eo Bo) (hr : RL base wr v' T') : Wt base gw cc w0 (wr.setCell ⟨gw, 0, none⟩ v') v' T' E B To Eo Bo :=
  ⟨blk_set h.blk 0 v', hr.set h.blk (by decide) 0 v', h.own.set h.blk (by decide) (by decide) 0 v', below_set h.bel (Nat.le_trans h.b0 h.gwb), (by simpa [World.setCell] using h.big), h.gwb, h.b0⟩
theorem Wt.want1 (h : Wt base gw cc w0 wr v T E B To Eo Bo) (E' : Int) : Wt base gw cc w0 (wr.setCell ⟨gw, 1, none⟩ (.int .i64 E')) v T E' B To Eo Bo :=
  ⟨blk_set h.blk 1 _, h.row.set h.blk (by decide) 1 _, h.own.set h.blk (by decide) (by decide) 1 _, below_set h.bel (Nat.le_trans h.b0 h.gwb), (by simpa [World.setCell] using h.big), h.gwb, h.b0⟩
theorem Wt.want2 (h : Wt base gw cc w0 wr v T E B To Eo Bo) (B' : Int) : Wt base gw cc w0 (wr.setCell ⟨gw, 2, none⟩ (.int .i64 B')) v T E B' To Eo Bo :=
  ⟨blk_set h.blk 2 _, h.row.set h.blk (by decide) 2 _, h.own.set h.blk (by decide) (by decide) 2 _, below_set h.bel (Nat.le_trans h.b0 h.gwb), (by simpa [World.setCell] using h.big), h.gwb, h.b0⟩
theorem Wt.trn (h : Wt base gw cc w0 wr v T E B To Eo Bo) (ho : OwnT base w' cc E' B' To') (ht : Trn base wr w') : Wt base gw cc w0 w' v T E B To' E' B' :=
  ⟨ht.2 _ _ _ h.blk (by decide) (by decide), h.row.kp ht.2, ho, h.bel.trans (ht.1.mono h.b0), Nat.le_trans h.big ht.1.size, h.gwb, h.b0⟩
end
theorem keys_slice {base n : Nat} {w : World} {v : Value} {xs : List Int} (h : w.ownsRow base 3 1 v xs.length (nums .i64 xs)) (hn : xs.length = n) : ∃ A c, v = .slice A n c ∧ n ≤ c ∧ Kd.C (Kd.int .i64) w A n xs := by
  subst hn
  obtain ⟨A, c, rfl, hr⟩ := own_reads h
  refine ⟨A, c, rfl, ?_, Kd.C_of_reads (d := (0 : Int)) (h1 := fun _ => rfl) hr⟩
  rcases h.2 with ⟨he, h0⟩ | ⟨g, cap, cur, he, _, _, hn, _⟩
  · injection he with _ hn _
    omega
  · injection he with _ hn2 hc
    omega
/-- What the region that looks at both caches needs of every world. -/
theorem skeep {base gw cc : Nat} {w0 w' w'' : World} {v : Value} {T : List Tr} {E B : Int} {A : Option Addr} {n : Nat} {xs : List Int} (hW : Aside0 (Wt base gw cc w0 w' v T E B T E B)) (hC : Aside0 (Kd.C (Kd.int .i64) w' A n xs)) (hb : Below w'.heap.size w' w'') :
    w''.cell? ⟨gw, 0, none⟩ = some v ∧ w''.cell? ⟨gw, 1, none⟩ = some (.int .i64 E) ∧ w''.cell? ⟨gw, 2, none⟩ = some (.int .i64 B) ∧ Aside0 (Wt base gw cc w0 w'' v T E B T E B) ∧ Aside0 (Kd.C (Kd.int .i64) w'' A n xs) := by
  have h := hW.out.below hb
  exact ⟨(blk_cell h.blk 0).trans rfl, (blk_cell h.blk 1).trans rfl, (blk_cell h.blk 2).trans rfl, ⟨h⟩, ⟨Kd.C_below hC.out hb⟩⟩
section
variable {base gw cc : Nat} {w0 w' w'' : World} {v : Value} {T : List Tr} {E B : Int} {A : Option Addr} {n : Nat} {xs : List Int}
theorem skeep2 (h : w'.cell? ⟨gw, 0, none⟩ = some v ∧ w'.cell? ⟨gw, 1, none⟩ = some (.int .i64 E) ∧ w'.cell? ⟨gw, 2, none⟩ = some (.int .i64 B) ∧ Aside0 (Wt base gw cc w0 w' v T E B T E B) ∧ Aside0 (Kd.C (Kd.int .i64) w' A n xs)) (hb : Below w'.heap.size w' w'') :
    w''.cell? ⟨gw, 0, none⟩ = some v ∧ w''.cell? ⟨gw, 1, none⟩ = some (.int .i64 E) ∧ w''.cell? ⟨gw, 2, none⟩ = some (.int .i64 B) ∧ Aside0 (Wt base gw cc w0 w'' v T E B T E B) ∧ Aside0 (Kd.C (Kd.int .i64) w'' A n xs) := skeep h.2.2.2.1 h.2.2.2.2 hb
theorem held_wt (h : w'.cell? ⟨gw, 0, none⟩ = some v ∧ w'.cell? ⟨gw, 1, none⟩ = some (.int .i64 E) ∧ w'.cell? ⟨gw, 2, none⟩ = some (.int .i64 B) ∧ Aside0 (Wt base gw cc w0 w' v T E B T E B) ∧ Aside0 (Kd.C (Kd.int .i64) w' A n xs)) : Wt base gw cc w0 w' v T E B T E B := h.2.2.2.1.out
theorem held_c (h : w'.cell? ⟨gw, 0, none⟩ = some v ∧ w'.cell? ⟨gw, 1, none⟩ = some (.int .i64 E) ∧ w'.cell? ⟨gw, 2, none⟩ = some (.int .i64 B) ∧ Aside0 (Wt base gw cc w0 w' v T E B T E B) ∧ Aside0 (Kd.C (Kd.int .i64) w' A n xs)) : Kd.C (Kd.int .i64) w' A n xs := h.2.2.2.2.out
end
/-- What holds at the head of every round, and at the end of every operation. -/
structure St (base gw cc : Nat) (n : Nat) (w0 wr : World) (v : Value) (T : List Tr) (E B : Int) : Prop where
  wt : Wt base gw cc w0 wr v T E B T E B
  e0 : 0 ≤ E
  e1 : E ≤ 9223372036854775807
  b0 : 0 ≤ B
  b1 : B ≤ 9223372036854775807
  len : (T.length : Int) ≤ E
  tot : totT T ≤ B
  few : T.length ≤ n
theorem fitT_fits {E B : Int} : ∀ {T : List Tr}, 0 ≤ E → 0 ≤ B → ((fitT E B T).length : Int) ≤ E ∧ totT (fitT E B T) ≤ B := by
  intro T
  induction T generalizing E B with
  | nil => exact fun h1 h2 => ⟨by simpa [fitT] using h1, by simpa [fitT, totT] using h2⟩
  | cons t T ih =>
    intro h1 h2
    rw [fitT]
    split
    · rename_i hc
      have := ih (E := E - 1) (B := B - t.s) (by omega) (by omega)
      rw [totT_cons]
      simp only [List.length_cons]
      omega
    · exact ⟨by simpa using h1, by simpa [totT] using h2⟩
theorem putT_fits {E B k v s : Int} {T : List Tr} (h1 : 0 ≤ E) (hp : ∀ t ∈ T, 0 ≤ t.s) (hl : (T.length : Int) ≤ E) (ht : totT T ≤ B) : ((putT E B k v s T).length : Int) ≤ E ∧ totT (putT E B k v s T) ≤ B := by
  have g1 := rmT_len (k := k) (T := T)
  have g2 := rm_tot (k := k) hp
  unfold putT
  split
  · rename_i hok
    simp only [putOk, Bool.not_eq_true', Bool.or_eq_false_iff, decide_eq_false_iff_not] at hok
    have := fitT_fits (E := E - 1) (B := B - s) (T := rmT k T) (by omega) (by omega)
    rw [totT_cons]
    simp only [List.length_cons]
    omega
  · omega
theorem usedT_same {k : Int} {T : List Tr} (hn : (T.map Tr.k).Nodup) : (usedT k T).length = T.length ∧ totT (usedT k T) = totT T := by
  cases hk : hasT k T with
  | false =>
    have hu : usedT k T = T := by
      unfold usedT
      rw [List.find?_eq_none.2]
      simpa [hasT] using hk
    rw [hu]
    exact ⟨rfl, rfl⟩
  | true =>
    obtain ⟨T1, t, T2, rfl, rfl, h1, _⟩ := posT_yes (i := 0) hk
    have hu : usedT t.k (T1 ++ t :: T2) = t :: (T1 ++ T2) := by
      unfold usedT
      rw [find_at_T rfl h1]
      simp only
      rw [rmT_at rfl h1 hn]
    rw [hu, totT_cons, totT_append, totT_append, totT_cons]
    simp
    omega
set_option maxRecDepth 100000 in
set_option maxHeartbeats 8000000 in
theorem runs_yes (E B : Int) (A : Option Addr) (c : Nat) (l : List (List Int)) (w : World) (h1 : 0 ≤ E) (h2 : 0 ≤ B) (h3 : E ≤ 9223372036854775807) (h4 : B ≤ 9223372036854775807) (hR : RowQ 4 w A l) (hl : l.length * 32 ≤ 140737488351232) (hc : l.length ≤ c) (hw : ∀ z ∈ l, z.length = 4 ∧ ∀ y ∈ z, (Lit.int .i64 y).wf = true) :
    Calls Try.prog 5 #[.int .i64 E, .int .i64 B, .slice A l.length c] w fun e w' => e = .returned (.bool true) ∧ Below w.heap.size w w' := by
  have HA := Aside0.mk (fun (W : World) => Ls.alive.calls W)
  have HN := Aside0.mk (fun (W : World) => new_T (w := W) E B h1 h2 h3 h4)
  have HR := Aside0.mk hR
  have HW := Aside0.mk hw
  have HE := Aside0.mk (⟨h1, h3, h2, h4⟩ : 0 ≤ E ∧ E ≤ 9223372036854775807 ∧ 0 ≤ B ∧ B ≤ 9223372036854775807)
  have d1 : decide (E < 0) = false := by simp; omega
  have d2 : decide (B < 0) = false := by simp; omega
  clear h1 h2 h3 h4 hR hw
  go_enter Try.func5, Try.ntmps5
  go_wp2_with (first | (go_at_call 9; (with_reducible refine (HA.out _).mono ?_); rintro e w1 ⟨rfl, hb⟩; have HB1 := Aside0.mk hb; clear hb) | (go_at_call 10; (with_reducible refine (HN.out _).mono ?_); rintro e w2 ⟨cc, rfl, hO, hb⟩; have HB2 := Aside0.mk (HB1.out.trans (hb.mono HB1.out.size)); have HO2 := Aside0.mk hO; have HBB := Aside0.mk HB1.out.size; have HW12 := Aside0.mk hb.size; have n1 : ∀ (W : World), (binOp BinOp.eql 25 (.pointer (some ⟨cc, 0, none⟩)) (.pointer none)).run Try.prog W = .ok (.bool false) W := (fun _ => by kernel_rfl); clear hb hO))
  obtain ⟨gw, hgw⟩ : ∃ gw, gw = w2.heap.size := ⟨_, rfl⟩
  have hbw := blk_new w2 (.cells #[.slice none 0 0, .int .i64 E, .int .i64 B] 38)
  rw [← hgw] at hbw ⊢
  have HGB : Aside0 (w1.heap.size ≤ gw) := ⟨by rw [hgw]; exact HW12.out⟩
  have HS0 : Aside0 (St w1.heap.size gw cc 0 w (w2.alloc (.cells #[.slice none 0 0, .int .i64 E, .int .i64 B] 38)) (.slice none 0 0) [] E B) := ⟨⟨hbw, RL.nil _ _, HO2.out.below (below_alloc (Below.refl _ _) _), HB2.out.alloc HB2.out.size _, by simp; have := HW12.out; omega, HGB.out, HBB.out⟩, HE.out.1, HE.out.2.1, HE.out.2.2.1, HE.out.2.2.2, by simpa using HE.out.1, by simpa [totT] using HE.out.2.2.1, Nat.le_refl _⟩
  clear hbw hgw HO2 HB2 HW12 HE d1 d2
  go_loopg [56] l.length (fun gk s wr => ∃ (n : Nat) (T : List Tr) (E B : Int) (v : Value), s = .int .i64 (n : Int) ∧ Aside0 (n + gk = l.length) ∧ Aside0 (St w1.heap.size gw cc n w wr v T E B))
  case atStart => exact ⟨0, [], E, B, _, rfl, ⟨Nat.zero_add _⟩, HS0⟩
  case round =>
    clear HS0
    obtain ⟨n, T, E, B, v, rfl, HNl, HS⟩ := hrel
    by_cases hlt : n < l.length
    · obtain ⟨x, rfl, k0, hcell⟩ := (HR.out.below HS.out.wt.bel).cell0 (by decide) hlt
      have k1 := hcell 1 (by decide) (by decide)
      have k2 := hcell 2 (by decide) (by decide)
      have k3 := hcell 3 (by decide) (by decide)
      clear hcell
      have hwf := fun j (hj : j < 4) => getD_wf HW.out hlt hj
      have W1 := Aside0.mk (hwf 1 (by decide))
      have W3 := Aside0.mk (hwf 3 (by decide))
      clear hwf
      generalize (l.getD n []).getD 0 0 = z0 at *
      generalize (l.getD n []).getD 1 0 = z1 at *
      generalize (l.getD n []).getD 2 0 = z2 at *
      generalize (l.getD n []).getD 3 0 = z3 at *
      obtain ⟨A0, c0, rfl, _, _⟩ := HS.out.wt.row.slice
      have g0 := (blk_cell HS.out.wt.blk 0).trans rfl
      have g1 := (blk_cell HS.out.wt.blk 1).trans rfl
      have g2 := (blk_cell HS.out.wt.blk 2).trans rfl
      have gl := blk_lt HS.out.wt.blk
      go_upto_block 2 with (fail)
      go_cut [12, 13, 14, 15, 16, 17, 18, 19, 20, 21] from 62 to 206 (fun _ _ _ _ _ _ _ _ _ _ wx => ∃ (T' : List Tr) (E' B' : Int) (v' : Value), Aside0 (St w1.heap.size gw cc (n + 1) w wx v' T' E' B'))
      case first =>
        have HKN := Aside0.mk HS.out.wt.own.kn
        have HLn : Aside0 (T.length < 5864062014804) := ⟨by have := HS.out.few; omega⟩
        have HLm : Aside0 (T.length < maxLen) := ⟨by have := HLn.out; simp only [maxLen]; omega⟩
        by_cases hz0 : z0 = 0
        · have hz : (z0 == 0) = true := by simp [hz0]
          clear hz0
          go_wp2_with (first | (go_at_call 13; (refine (ref_get.calls E B z1 (HS.out.wt.row.below (below_alloc (Below.refl _ _) _)) (Nat.le_trans HS.out.wt.big (below_alloc (Below.refl wr.heap.size wr) _).size) (Nat.lt_of_lt_of_le HLn.out (by decide)) HKN.out.1).mono ?_); rintro e w3 ⟨v', rfl, hR, hb⟩; have HW3 := Aside0.mk ((HS.out.wt.alloc _).below hb); have HR3 := Aside0.mk hR; obtain ⟨A3, c3, rfl, _, _⟩ := hR.slice; have q0 := (blk_cell HW3.out.blk 0).trans rfl; have q1 := (blk_cell HW3.out.blk 1).trans rfl; have q2 := (blk_cell HW3.out.blk 2).trans rfl; have r0 := blk_frozen HW3.out.blk 0; have r1 := blk_frozen HW3.out.blk 1; have r2 := blk_frozen HW3.out.blk 2; have ql := blk_lt HW3.out.blk; have o3 := blk_below (blk_new wr _) hb; have ol := blk_lt o3; have o31 := (blk_cell o3 1).trans rfl; have o32 := (blk_cell o3 2).trans rfl; have o33 := (blk_cell o3 3).trans rfl; clear hR hb o3 g0 g1 g2) | (go_at_call 12; (refine (get_T ((HW3.out.want HR3.out E B).alloc _).own ((HW3.out.want HR3.out E B).alloc _).big W1.out).mono ?_); rintro e w4 ⟨rfl, hO, hT⟩; have HW4 := Aside0.mk (((HW3.out.want HR3.out E B).alloc _).trn hO hT); clear hO hT))
          go_meet
          case rel => exact ⟨_, _, _, _, ⟨⟨HW4.out, HS.out.e0, HS.out.e1, HS.out.b0, HS.out.b1, by rw [(usedT_same HKN.out.1).1]; exact HS.out.len, by rw [(usedT_same HKN.out.1).2]; exact HS.out.tot, by rw [(usedT_same HKN.out.1).1]; exact Nat.le_succ_of_le HS.out.few⟩⟩⟩
        have hz : (z0 == 0) = false := by simp [hz0]
        clear hz0
        by_cases hz0 : z0 = 1
        · have hz1 : (z0 == 1) = true := by simp [hz0]
          clear hz0
          go_wp2_with (first | (go_at_call 14; (refine (ref_put.calls E B z1 z2 z3 (HS.out.wt.row.below (below_alloc (Below.refl _ _) _)) (Nat.le_trans HS.out.wt.big (below_alloc (Below.refl wr.heap.size wr) _).size) HLn.out HKN.out.1 HKN.out.2.1 HS.out.e0 HS.out.e1 HS.out.b1).mono ?_); rintro e w3 ⟨v', rfl, hR, hb⟩; have HW3 := Aside0.mk ((HS.out.wt.alloc _).below hb); have HR3 := Aside0.mk hR; obtain ⟨A3, c3, rfl, _, _⟩ := hR.slice; have q0 := (blk_cell HW3.out.blk 0).trans rfl; have q1 := (blk_cell HW3.out.blk 1).trans rfl; have q2 := (blk_cell HW3.out.blk 2).trans rfl; have r0 := blk_frozen HW3.out.blk 0; have r1 := blk_frozen HW3.out.blk 1; have r2 := blk_frozen HW3.out.blk 2; have ql := blk_lt HW3.out.blk; have o3 := blk_below (blk_new wr _) hb; have ol := blk_lt o3; have o31 := (blk_cell o3 1).trans rfl; have o32 := (blk_cell o3 2).trans rfl; have o33 := (blk_cell o3 3).trans rfl; clear hR hb o3 g0 g1 g2) | (go_at_call 11; (refine (put_T ((HW3.out.want HR3.out E B).alloc _).own ((HW3.out.want HR3.out E B).alloc _).big W1.out z2 z3 HS.out.e0 HS.out.e1 HS.out.b1 HLm.out).mono ?_); rintro e w4 ⟨rfl, hO, hT⟩; have HW4 := Aside0.mk (((HW3.out.want HR3.out E B).alloc _).trn hO hT); clear hO hT))
          go_meet
          case rel => exact ⟨_, _, _, _, ⟨⟨HW4.out, HS.out.e0, HS.out.e1, HS.out.b0, HS.out.b1, (putT_fits HS.out.e0 HKN.out.2.1 HS.out.len HS.out.tot).1, (putT_fits HS.out.e0 HKN.out.2.1 HS.out.len HS.out.tot).2, Nat.le_trans putT_len (Nat.succ_le_succ HS.out.few)⟩⟩⟩
        have hz1 : (z0 == 1) = false := by simp [hz0]
        clear hz0
        by_cases hz0 : z0 = 2
        · have hz2 : (z0 == 2) = true := by simp [hz0]
          clear hz0
          go_wp2_with (first | (go_at_call 15; (refine (ref_drop.calls E B z1 (HS.out.wt.row.below (below_alloc (Below.refl _ _) _)) (Nat.le_trans HS.out.wt.big (below_alloc (Below.refl wr.heap.size wr) _).size) (Nat.lt_of_lt_of_le HLn.out (by decide)) HKN.out.1).mono ?_); rintro e w3 ⟨v', rfl, hR, hb⟩; have HW3 := Aside0.mk ((HS.out.wt.alloc _).below hb); have HR3 := Aside0.mk hR; obtain ⟨A3, c3, rfl, _, _⟩ := hR.slice; have q0 := (blk_cell HW3.out.blk 0).trans rfl; have q1 := (blk_cell HW3.out.blk 1).trans rfl; have q2 := (blk_cell HW3.out.blk 2).trans rfl; have r0 := blk_frozen HW3.out.blk 0; have r1 := blk_frozen HW3.out.blk 1; have r2 := blk_frozen HW3.out.blk 2; have ql := blk_lt HW3.out.blk; have o3 := blk_below (blk_new wr _) hb; have ol := blk_lt o3; have o31 := (blk_cell o3 1).trans rfl; have o32 := (blk_cell o3 2).trans rfl; have o33 := (blk_cell o3 3).trans rfl; clear hR hb o3 g0 g1 g2) | (go_at_call 16; (refine (drop_T ((HW3.out.want HR3.out E B).alloc _).own ((HW3.out.want HR3.out E B).alloc _).big W1.out).mono ?_); rintro e w4 ⟨rfl, hO, hT⟩; have HW4 := Aside0.mk (((HW3.out.want HR3.out E B).alloc _).trn hO hT); clear hO hT))
          go_meet
          case rel => exact ⟨_, _, _, _, ⟨⟨HW4.out, HS.out.e0, HS.out.e1, HS.out.b0, HS.out.b1, Int.le_trans (Int.ofNat_le.2 rmT_len) HS.out.len, Int.le_trans (rm_tot HKN.out.2.1) HS.out.tot, Nat.le_succ_of_le (Nat.le_trans rmT_len HS.out.few)⟩⟩⟩
        have hz2 : (z0 == 2) = false := by simp [hz0]
        clear hz0
        by_cases hz0 : z0 = 3
        · have hz3 : (z0 == 3) = true := by simp [hz0]
          clear hz0
          have hb1 : -9223372036854775808 ≤ z1 ∧ z1 ≤ 9223372036854775807 := bounds_i64 W1.out
          have hb3 : -9223372036854775808 ≤ z3 ∧ z3 ≤ 9223372036854775807 := bounds_i64 W3.out
          by_cases hneg : z1 < 0 ∨ z3 < 0
          · have HLI := Aside0.mk (fun (W : World) => limit_no (w := W) (c := cc) z1 z3 hneg)
            have hh : decide (z1 < 0) = true ∨ (decide (z1 < 0) = false ∧ decide (z3 < 0) = true) := by
              simp only [decide_eq_true_eq, decide_eq_false_iff_not]
              omega
            have HW4 := Aside0.mk (HS.out.wt.alloc (.cells #[.int .i64 z0, .int .i64 z1, .int .i64 z2, .int .i64 z3] 30))
            clear hneg hb1 hb3
            rcases hh with e1 | ⟨e1, e2⟩
            all_goals
              go_wp2_with (go_at_call 17; (with_reducible refine (HLI.out _).mono ?_); rintro e w4 ⟨rfl, rfl⟩)
              go_meet
              case rel => exact ⟨_, _, _, _, ⟨⟨HW4.out, HS.out.e0, HS.out.e1, HS.out.b0, HS.out.b1, HS.out.len, HS.out.tot, Nat.le_succ_of_le HS.out.few⟩⟩⟩
          · have HB := Aside0.mk (⟨by omega, by omega, by omega, by omega⟩ : 0 ≤ z1 ∧ 0 ≤ z3 ∧ z1 ≤ 9223372036854775807 ∧ z3 ≤ 9223372036854775807)
            have e1 : decide (z1 < 0) = false := by simp; omega
            have e2 : decide (z3 < 0) = false := by simp; omega
            clear hneg hb1 hb3
            go_wp2_with (first | (go_at_call 17; (refine (limit_T (HS.out.wt.alloc _).own (HS.out.wt.alloc _).big z1 z3 HB.out.1 HB.out.2.1 HB.out.2.2.1 HB.out.2.2.2).mono ?_); rintro e w4 ⟨rfl, hO, hT⟩; have o4 := hT.2 _ _ _ (blk_new wr _) (by decide) (by decide); have ol := blk_lt o4; have o41 := (blk_cell o4 1).trans rfl; have o43 := (blk_cell o4 3).trans rfl; have HW4 := Aside0.mk ((HS.out.wt.alloc _).trn hO hT); have s1 := (blk_cell HW4.out.blk 1).trans rfl; have s2 := (blk_cell HW4.out.blk 2).trans rfl; have s0 := (blk_cell HW4.out.blk 0).trans rfl; have t1 := blk_frozen HW4.out.blk 1; have t2 := blk_frozen HW4.out.blk 2; have hne := Nat.ne_of_lt gl; have HO4 := Aside0.mk o4; clear hO hT o4 g0 g1 g2) | (go_at_call 18; (refine (ref_fit.calls z1 z3 ((HW4.out.want1 z1).want2 z3).row ((HW4.out.want1 z1).want2 z3).big (Nat.lt_of_lt_of_le HLn.out (by decide)) HKN.out.2.1 HB.out.2.2.1 HB.out.2.1 HB.out.2.2.2).mono ?_); rintro e w3 ⟨v', rfl, hR, hb⟩; have HW3 := Aside0.mk (((HW4.out.want1 z1).want2 z3).below hb); have HR3 := Aside0.mk hR; obtain ⟨A3, c3, rfl, _, _⟩ := hR.slice; have q0 := (blk_cell HW3.out.blk 0).trans rfl; have q1 := (blk_cell HW3.out.blk 1).trans rfl; have q2 := (blk_cell HW3.out.blk 2).trans rfl; have r0 := blk_frozen HW3.out.blk 0; have r1 := blk_frozen HW3.out.blk 1; have r2 := blk_frozen HW3.out.blk 2; clear hR hb s0 s1 s2 t1 t2 o41 o43))
            go_meet
            case rel => exact ⟨_, _, _, _, ⟨⟨HW3.out.want HR3.out z1 z3, HB.out.1, HB.out.2.2.1, HB.out.2.1, HB.out.2.2.2, (fitT_fits HB.out.1 HB.out.2.1).1, (fitT_fits HB.out.1 HB.out.2.1).2, Nat.le_succ_of_le (Nat.le_trans fitT_len HS.out.few)⟩⟩⟩
        · have hz3 : (z0 == 3) = false := by simp [hz0]
          clear hz0
          go_wp2_with (go_at_call 19; (refine (clear_T (HS.out.wt.alloc _).own (HS.out.wt.alloc _).big).mono ?_); rintro e w4 ⟨rfl, hO, hT⟩; have HW4 := Aside0.mk ((HS.out.wt.alloc _).trn hO hT); have s0 := (blk_cell HW4.out.blk 0).trans rfl; have t0 := blk_frozen HW4.out.blk 0; clear hO hT g0 g1 g2)
          go_meet
          case rel => exact ⟨_, _, _, _, ⟨⟨HW4.out.want0 (RL.nil _ _), HS.out.e0, HS.out.e1, HS.out.b0, HS.out.b1, HS.out.e0, HS.out.b0, Nat.zero_le _⟩⟩⟩
      case rest =>
        clear k0 k1 k2 k3 g0 g1 g2 gl
        obtain ⟨T', E', B', v', HS'⟩ := hcut
        obtain ⟨A3, c3, rfl, hc3, hr3⟩ := HS'.out.wt.row.slice
        have q0 := (blk_cell HS'.out.wt.blk 0).trans rfl
        have hol := own_lit wc wc.heap.size 3 .i64 [] (Nat.le_refl _) (by decide)
        have HOL := Aside0.mk hol
        have HR3 := Aside0.mk hr3
        have ql := blk_lt HS'.out.wt.blk
        have HTL : Aside0 (T'.length < 4398046511105) := ⟨by have := HS'.out.few; omega⟩
        have HI : Aside0 ((Try.prog.info? 3).map (fun i => (i.zero, i.size, i.bytes)) = some (some (.int .i64 0), 1, 8)) := ⟨by kernel_rfl⟩
        have HBC := Aside0.mk (Below.refl wc.heap.size wc)
        have hTm : T'.length < 9223372036854775807 := by have := HTL.out; omega
        clear hr3 hol
        go_wp2
        go_loopw [22, 24, 163] (fun s22 _ s163 wx => ∃ (m : Nat), s163 = .int .i64 (m : Int) ∧ Aside0 (m ≤ T'.length) ∧ Aside0 (wx.ownsRow wc.heap.size 3 1 s22 ((T'.take m).map Tr.k).length (nums .i64 ((T'.take m).map Tr.k))) ∧ Aside0 (Below wc.heap.size wc wx)) (fun _ _ s163 _ => T'.length - (intOf s163).toNat)
        case atStart => exact ⟨0, rfl, ⟨Nat.zero_le _⟩, HOL, ⟨HBC.out.alloc (Nat.le_refl _) _⟩⟩
        case round =>
          clear HOL HBC
          obtain ⟨m, rfl, HM, HKR, HB⟩ := hrel
          by_cases hm : m < T'.length
          · obtain ⟨ad, hA, a0, a1, a2⟩ := at_T49 HR3.out (m : Int) (by omega) (by simpa using hm)
            subst hA
            rw [rd_map hm, Int.toNat_natCast] at a0 a1 a2
            replace a0 := (HB.out.cell (World.block_lt_of_cell? wc _ a0)).trans a0
            replace a1 := (HB.out.cell (World.block_lt_of_cell? wc _ a1)).trans a1
            replace a2 := (HB.out.cell (World.block_lt_of_cell? wc _ a2)).trans a2
            have hsn : (T'.take (m + 1)).map Tr.k = (T'.take m).map Tr.k ++ [T'[m].k] := by
              rw [List.take_succ_eq_append_getElem hm, List.map_append]
              rfl
            have HSN := Aside0.mk hsn
            have HLB : Aside0 ((((T'.take m).map Tr.k).length + 1) * 8 ≤ 140737488355328) := ⟨by
              have := HTL.out
              have h2 : ((T'.take m).map Tr.k).length ≤ T'.length := by rw [List.length_map, List.length_take]; exact Nat.min_le_right _ _
              omega⟩
            have HA0 := Aside0.mk a0
            generalize hs : s49 T'[m] = sm at *
            have hk : sm.f0 = T'[m].k := by rw [← hs]; rfl
            rw [← hk] at HSN
            clear hsn hs hk
            go_wp2_with (at_builtin; (refine append_num_at (w0 := wc) wc.heap.size (wr.heap.size + 1) rfl (.tmp 167) (.tmp 170) 47 3 .i64 8 rfl Try.underlying47 HI.out (by decide) u22 _ sm.f0 rfl rfl (by simp) (pw_own_below HKR.out (below_alloc (Below.refl _ _) _)) (HB.out.alloc HB.out.size _) (HB.out.alloc HB.out.size _).size HLB.out ?_; intro v1 w5 ho hb hg hat; rw [← HSN.out] at ho; have HO5 := Aside0.mk ho; have HB5 := Aside0.mk hb; clear ho hb hg hat))
            go_roundw
            case rel => exact ⟨m + 1, by go_num, ⟨by omega⟩, HO5, HB5⟩
            case measure => simp [intOf]; omega
          · obtain rfl : m = T'.length := by have := HM.out; omega
            have hk := HKR.out
            rw [List.take_length] at hk
            have HK := Aside0.mk hk
            clear hk hm HKR
            go_wp2
            have hlk : (T'.map Tr.k).length = T'.length := List.length_map ..
            obtain ⟨Ak, ck, rfl, hck, hCk⟩ := keys_slice HK.out hlk
            have HWr := Aside0.mk (HS'.out.wt.below HB.out)
            have HCr := Aside0.mk hCk
            obtain ⟨kk, hsame⟩ := same_f (T'.map Tr.k) (by rw [List.length_map]; exact hTm)
            have hSame := fun (W : World) (A5 : Option Addr) (c5 : Nat) h1 h2 h3 => serifref02_SameInts.calls kk A5 c5 (T'.map Tr.k) Ak ck (T'.map Tr.k) true W h1 h2 h3 (hlk.symm ▸ hck) hsame
            simp only [List.length_map] at hSame
            have HSame := Aside0.mk hSame
            have dE : decide (E' < (T'.length : Int)) = false := decide_eq_false (by have := HS'.out.len; omega)
            have dB : decide (B' < totT T') = false := decide_eq_false (by have := HS'.out.tot; omega)
            have HKB : Aside0 (T'.length * 8 ≤ 140737488355328) := ⟨by have := HTL.out; omega⟩
            have HKn := Aside0.mk HS'.out.wt.own.kn
            have HTT : Aside0 (totT T' ≤ 9223372036854775807) := ⟨Int.le_trans HS'.out.tot HS'.out.b1⟩
            clear hCk hck hsame hSame hlk q0 ql
            go_region_held3 (fun w' => w'.cell? ⟨gw, 0, none⟩ = some (.slice A3 T'.length c3) ∧ w'.cell? ⟨gw, 1, none⟩ = some (.int .i64 E') ∧ w'.cell? ⟨gw, 2, none⟩ = some (.int .i64 B') ∧ Aside0 (Wt w1.heap.size gw cc w w' (.slice A3 T'.length c3) T' E' B' T' E' B') ∧ Aside0 (Kd.C (Kd.int .i64) w' Ak T'.length (T'.map Tr.k)))
              (first | exact skeep HWr HCr (below_drew (Below.refl _ _)) | assumption)
              (first | (go_at_call 21; (refine (keys_T (held_wt (base := w1.heap.size) (gw := gw) (cc := cc) (w0 := w) (v := .slice A3 T'.length c3) (T := T') (E := E') (B := B') (A := Ak) (n := T'.length) (xs := T'.map Tr.k) (by assumption)).own HKB.out).mono ?_); rintro e w5 ⟨vk, rfl, hrow, hb⟩; obtain ⟨A5, c5, rfl, hc5, hC5⟩ := keys_slice hrow (List.length_map ..); have hS5 := skeep2 (base := w1.heap.size) (gw := gw) (cc := cc) (w0 := w) (v := .slice A3 T'.length c3) (T := T') (E := E') (B := B') (A := Ak) (n := T'.length) (xs := T'.map Tr.k) (by assumption) hb; have HC5 := Aside0.mk hC5; have Hc5 := Aside0.mk hc5; clear hrow hb hC5 hc5) | (go_at_call 20; (refine (HSame.out _ A5 c5 HC5.out Hc5.out (held_c (base := w1.heap.size) (gw := gw) (cc := cc) (w0 := w) (v := .slice A3 T'.length c3) (T := T') (E := E') (B := B') (A := Ak) (n := T'.length) (xs := T'.map Tr.k) (by assumption))).mono ?_); rintro e w6 ⟨rfl, ⟨nd, rfl⟩⟩; have hS6 := skeep2 hS5 (pw_below_drewN (Below.refl _ _) nd); generalize World.drewN _ nd = w7 at *) | (go_at_call 22; (refine (len_T (held_wt (base := w1.heap.size) (gw := gw) (cc := cc) (w0 := w) (v := .slice A3 T'.length c3) (T := T') (E := E') (B := B') (A := Ak) (n := T'.length) (xs := T'.map Tr.k) (by assumption)).own).mono ?_); rintro e w8 ⟨rfl, rfl⟩) | (go_at_call 23; (refine (bytes_T (held_wt (base := w1.heap.size) (gw := gw) (cc := cc) (w0 := w) (v := .slice A3 T'.length c3) (T := T') (E := E') (B := B') (A := Ak) (n := T'.length) (xs := T'.map Tr.k) (by assumption)).own).mono ?_); rintro e w8 ⟨rfl, rfl⟩) | (go_at_call 24; (refine (ref_held.calls E' B' (held_wt (base := w1.heap.size) (gw := gw) (cc := cc) (w0 := w) (v := .slice A3 T'.length c3) (T := T') (E := E') (B := B') (A := Ak) (n := T'.length) (xs := T'.map Tr.k) (by assumption)).row hTm HKn.out.2.1 HTT.out).mono ?_); rintro e w9 ⟨rfl, hb⟩; have hS9 := skeep2 (base := w1.heap.size) (gw := gw) (cc := cc) (w0 := w) (v := .slice A3 T'.length c3) (T := T') (E := E') (B := B') (A := Ak) (n := T'.length) (xs := T'.map Tr.k) (by assumption) hb; clear hb))
            all_goals
              go_wp2
              go_roundg (gk - 1)
              case measure => have := HNl.out; omega
              case rel => exact ⟨n + 1, T', E', B', _, by go_num, ⟨by have := HNl.out; omega⟩, ⟨⟨held_wt (base := w1.heap.size) (gw := gw) (cc := cc) (w0 := w) (v := .slice A3 T'.length c3) (T := T') (E := E') (B := B') (A := Ak) (n := T'.length) (xs := T'.map Tr.k) (by assumption), HS'.out.e0, HS'.out.e1, HS'.out.b0, HS'.out.b1, HS'.out.len, HS'.out.tot, HS'.out.few⟩⟩⟩
    · go_wp2
      go_ret
      exact ⟨rfl, HS.out.wt.bel⟩
end Go.Proofs.Ytebmfbfmdbimdaa.F.Li
