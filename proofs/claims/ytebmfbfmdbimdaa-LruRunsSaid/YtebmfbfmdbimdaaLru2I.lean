/- Package lru's cache: an entry dropped, an entry got (keys: int). -/
import Derived.Test.YtebmfbfmdbimdaaLru1I
namespace Go.Proofs.Ytebmfbfmdbimdaa.F.Li
open Go.RowKit Go.Proofs.YtebmfbfmdbimdaaW.PrintWords Go.Proofs.YtebmfbfmdbimdaaW.PrintLast Go.Proofs.YtebmfbfmdbimdaaW.PrintMore
set_option linter.unusedVariables false
set_option linter.unusedSimpArgs false
/-- Block c holds a cache of the entries L, the one used last first; block m is its map. -/
structure Own (w : World) (c m : Nat) (E B : Int) (L : List Ent) : Prop where
  nodes : ∃ o n, Nodes w c m E B (tot L) L o n ∧ Ring o n c (L.map Ent.b)
  nd : (c :: L.map Ent.b).Nodup
  kn : (L.map Ent.k).Nodup
  map : MapOf w m L
  pos : ∀ e ∈ L, 0 ≤ e.s
  big : tot L ≤ 9223372036854775807
/-- The cache's blocks. -/
def Sb (c m : Nat) (L : List Ent) (k : Nat) : Prop := k = m ∨ Sn c L k
theorem tot_cons (e : Ent) (L : List Ent) : tot (e :: L) = e.s + tot L := by simp [tot]
theorem tot_append (L1 L2 : List Ent) : tot (L1 ++ L2) = tot L1 + tot L2 := by simp [tot]
theorem tot_nonneg : ∀ {L : List Ent}, (∀ e ∈ L, 0 ≤ e.s) → 0 ≤ tot L
  | [], _ => by simp [tot]
  | e :: L, h => by
    rw [tot_cons]
    have := h e (by simp)
    have := tot_nonneg (L := L) (fun e' he' => h e' (by simp [he']))
    omega
section
variable {w : World} {c m : Nat} {E B H : Int} {L L1 L2 : List Ent} {e : Ent} {o n : Nat → Nat}
theorem near (h : Ring o n c ((L1 ++ e :: L2).map Ent.b)) : Sn c (L1 ++ e :: L2) (n e.b) ∧ Sn c (L1 ++ e :: L2) (o e.b) := by
  rw [List.map_append, List.map_cons] at h
  obtain ⟨p, a, b, q, hp, hq, ha, hb, _⟩ := h.split
  constructor
  · have : a ∈ c :: L1.map Ent.b := by rw [hp]; simp
    rw [ha]
    rcases List.mem_cons.1 this with hh | hh
    · exact .inl hh
    · obtain ⟨e', he', hb'⟩ := List.mem_map.1 hh
      exact .inr ⟨e', by simp [he'], hb'⟩
  · have : b ∈ L2.map Ent.b ++ [c] := by rw [hq]; simp
    rw [hb]
    rcases List.mem_append.1 this with hh | hh
    · obtain ⟨e', he', hb'⟩ := List.mem_map.1 hh
      exact .inr ⟨e', by simp [he'], hb'⟩
    · exact .inl (by simpa using hh)
theorem first (h : Ring o n c (L.map Ent.b)) : Sn c L (o c) := by
  unfold Ring at h
  cases L with
  | nil => exact .inl (h.1 c rfl).1
  | cons e L => exact .inr ⟨e, by simp, (h.1 e.b rfl).1.symm⟩
theorem last (h : Ring o n c ((L1 ++ [e]).map Ent.b)) : n c = e.b := by
  unfold Ring at h
  rw [List.map_append, List.append_assoc, ← List.cons_append, List.map_cons, List.map_nil, List.singleton_append, chn_append] at h
  exact (h.2.1 c rfl).2
theorem turn {w' : World} (h : Nodes w c m E B H L o n) (ht : w.mapTurned w' m) : Nodes w' c m E B H L o n := by
  have hg := ht.grown
  obtain ⟨es, clock, es', clock', hb, _⟩ := ht
  have hne : ∀ {g : Nat} {cs : Array Value} {t : TypeId}, w.heap[g]? = some (.cells cs t (0, 0)) → w'.heap[g]? = w.heap[g]? := fun {g cs t} hh => hg.block g (blk_lt hh) (fun he => by
    cases he
    rw [hb] at hh
    simp at hh)
  exact h.keep (hne h.cb) (fun e he => hne (h.eb e he).2)
theorem map_apart (h : Nodes w c m E B H L o n) (hm : MapOf w m L2) : ¬ Sn c L m := by
  rintro (hh | ⟨e', he', hh⟩)
  · exact hm.ne h.cb hh
  · exact hm.ne (h.eb e' he').2 hh.symm
theorem rm_at {k : KT} (hk : e.k = k) (hn : ((L1 ++ e :: L2).map Ent.k).Nodup) : rm k (L1 ++ e :: L2) = L1 ++ L2 := by
  subst hk
  rw [List.map_append, List.map_cons, List.nodup_append] at hn
  obtain ⟨n1, n2, n3⟩ := hn
  unfold rm
  rw [List.filter_append, List.filter_cons]
  simp only [ne_eq, not_true_eq_false, decide_false, Bool.false_eq_true, if_false]
  rw [List.filter_eq_self.2, List.filter_eq_self.2]
  · intro e' he'
    simp only [decide_eq_true_eq]
    exact fun hh => (List.nodup_cons.1 n2).1 (hh ▸ List.mem_map_of_mem he')
  · intro e' he'
    simp only [decide_eq_true_eq]
    exact fun hh => n3 _ (List.mem_map_of_mem he') _ (List.mem_cons_self) hh
theorem at_key {k : KT} (h : hasK k L = true) : ∃ L1 e L2, L = L1 ++ e :: L2 ∧ e.k = k := by
  obtain ⟨e, he, hk⟩ := hasK_iff.1 h
  obtain ⟨L1, L2, hL⟩ := List.append_of_mem he
  exact ⟨L1, e, L2, hL, hk⟩
theorem rm_none {k : KT} (h : hasK k L = false) : rm k L = L := List.filter_eq_self.2 (fun e he => by simp [hasK_false.1 h e he])
end
set_option maxRecDepth 100000 in
set_option maxHeartbeats 2000000 in
theorem drop_miss {w : World} {c m : Nat} {E B : Int} {L : List Ent} (h : Own w c m E B L) {k : KT} (hk : kok k) (hm : hasK k L = false) :
    Calls Try.prog 16 #[.pointer (some ⟨c, 0, none⟩), kv k] w fun x w' => x = .returned (.bool false) ∧ w' = w := by
  obtain ⟨o, n, hN, hR⟩ := h.nodes
  have c0 : w.cell? ⟨c, 0, none⟩ = some (.map (some m)) := (blk_cell hN.cb 0).trans rfl
  have hrun := h.map.miss hk hm
  clear h hN hR
  go_enter Try.func16, Try.ntmps16
  go_wp2
  go_returns
  first | exact ⟨rfl, rfl⟩ | rfl
set_option maxRecDepth 100000 in
set_option maxHeartbeats 2000000 in
theorem get_miss {w : World} {c m : Nat} {E B : Int} {L : List Ent} (h : Own w c m E B L) {k : KT} (hk : kok k) (hm : hasK k L = false) :
    Calls Try.prog 12 #[.pointer (some ⟨c, 0, none⟩), kv k] w fun x w' => x = .returned (.tuple #[.int .i64 0, .bool false]) ∧ w' = w := by
  obtain ⟨o, n, hN, hR⟩ := h.nodes
  have c0 : w.cell? ⟨c, 0, none⟩ = some (.map (some m)) := (blk_cell hN.cb 0).trans rfl
  have hrun := h.map.miss hk hm
  clear h hN hR
  go_enter Try.func12, Try.ntmps12
  go_wp2
  go_returns
  first | exact ⟨rfl, rfl⟩ | rfl
set_option maxRecDepth 100000 in
set_option maxHeartbeats 4000000 in
theorem get_hit {w : World} {c m : Nat} {E B : Int} {L1 L2 : List Ent} {e : Ent} (h : Own w c m E B (L1 ++ e :: L2)) :
    Calls Try.prog 12 #[.pointer (some ⟨c, 0, none⟩), kv e.k] w fun x w' => x = .returned (.tuple #[.int .i64 e.v, .bool true]) ∧ Own w' c m E B (e :: (L1 ++ L2)) ∧ Fr (Sn c (L1 ++ e :: L2)) w w' := by
  obtain ⟨o, n, hN, hR⟩ := h.nodes
  have he : e ∈ L1 ++ e :: L2 := by simp
  have c0 : w.cell? ⟨c, 0, none⟩ = some (.map (some m)) := (blk_cell hN.cb 0).trans rfl
  have hrun := h.map.hit he
  have hnd := h.nd
  rw [List.map_append, List.map_cons] at hnd
  have hR' := hR
  rw [List.map_append, List.map_cons] at hR'
  have hR1 := hR'.unlink hnd
  have hn1 : (c :: (L1.map Ent.b ++ L2.map Ent.b)).Nodup := hnd.sublist (List.Sublist.cons_cons _ (List.Sublist.append (List.Sublist.refl _) (List.sublist_cons_self _ _)))
  have hnot : e.b ∉ c :: (L1.map Ent.b ++ L2.map Ent.b) := by
    rw [List.nodup_cons, List.nodup_append, List.nodup_cons] at hnd
    obtain ⟨m1, m2, ⟨m3, m4⟩, m5⟩ := hnd
    intro hh
    rcases List.mem_cons.1 hh with hh | hh
    · exact m1 (by simp [hh])
    · rcases List.mem_append.1 hh with hh | hh
      · exact m5 _ hh _ List.mem_cons_self rfl
      · exact m3 hh
  have hR2 := hR1.use hn1 hnot
  have hR1' : Ring (upd o (n e.b) (o e.b)) (upd n (o e.b) (n e.b)) c ((L1 ++ L2).map Ent.b) := by rw [List.map_append]; exact hR1
  have s1 : Sn c (L1 ++ e :: L2) ((upd o (n e.b) (o e.b)) c) := (first hR1').imp id (fun ⟨e', he', hb'⟩ => ⟨e', by rcases List.mem_append.1 he' with hh | hh <;> simp [hh], hb'⟩)
  have ht : tot (e :: (L1 ++ L2)) = tot (L1 ++ e :: L2) := by simp only [tot_cons, tot_append]; omega
  have HU := Aside0.mk (unlink.calls hN he (near hR).1 (near hR).2)
  have HS := Aside0.mk (fun w1 (hN1 : Nodes w1 c m E B (tot (L1 ++ e :: L2)) (L1 ++ e :: L2) (upd o (n e.b) (o e.b)) (upd n (o e.b) (n e.b))) => use.calls hN1 he s1)
  have HX := Aside0.mk (fun (w2 : World) (hN2 : Nodes w2 c m E B (tot (L1 ++ e :: L2)) (L1 ++ e :: L2) _ _) (hf : Fr (Sn c (L1 ++ e :: L2)) w w2) =>
    (⟨⟨_, _, ht ▸ (hN2.sub (L' := e :: (L1 ++ L2)) (by intro e' he'; simp at he' ⊢; rcases he' with h | h | h <;> simp [h])), by rw [List.map_cons, List.map_append]; exact hR2⟩, by rw [List.map_cons, List.map_append]; exact (List.perm_middle.cons c).nodup_iff.1 hnd, h.kn.perm (by rw [List.map_append, List.map_cons, List.map_cons, List.map_append]; exact List.perm_middle), (h.map.keep (hf.block m h.map.lt (map_apart hN h.map))).like (by simp; omega) (by intro e'; simp; grind), fun e' he' => h.pos e' (by simp at he' ⊢; rcases he' with h | h | h <;> simp [h]), ht ▸ h.big⟩ : Own w2 c m E B (e :: (L1 ++ L2))))
  have HV := Aside0.mk (fun (w2 : World) {o' n' : Nat → Nat} (hN2 : Nodes w2 c m E B (tot (L1 ++ e :: L2)) (L1 ++ e :: L2) o' n') => (blk_cell (hN2.eb e he).2 1).trans rfl)
  clear h hN hR hR' hR1 hR2 hR1' hnd hn1 hnot s1 he ht
  go_enter Try.func12, Try.ntmps12
  go_wp2_with (first | (go_at_call 37; (with_reducible refine HU.out.mono ?_); rintro x w1 ⟨rfl, hN1, hF1⟩; have HN1 := Aside0.mk hN1; have HF1 := Aside0.mk hF1; clear hN1 hF1) | (go_at_call 36; (with_reducible refine (HS.out _ HN1.out).mono ?_); rintro x w2 ⟨rfl, hN2, hF2⟩; have HN2 := Aside0.mk hN2; have HF2 := Aside0.mk (HF1.out.trans hF2 (fun _ _ hh => hh)); have hv := HV.out _ hN2; clear hN2 hF2 HF1 HN1))
  go_returns
  exact ⟨rfl, HX.out _ HN2.out HF2.out, HF2.out⟩
end Go.Proofs.Ytebmfbfmdbimdaa.F.Li
