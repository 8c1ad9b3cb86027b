/- Package lru's cache: drop and get for every key; entries let go until there is room (keys: string). -/
import Derived.Test.YtebmfbfmdbimdaaLru3S
namespace Go.Proofs.Ytebmfbfmdbimdaa.F.Ls
open Go.RowKit Go.Proofs.YtebmfbfmdbimdaaW.PrintWords Go.Proofs.YtebmfbfmdbimdaaW.PrintLast Go.Proofs.YtebmfbfmdbimdaaW.PrintMore
set_option linter.unusedVariables false
set_option linter.unusedSimpArgs false
theorem drop.calls {w : World} {c m : Nat} {E B : Int} {L : List Ent} (h : Own w c m E B L) {k : KT} (hk : kok k) :
    Calls Try.prog 48 #[.pointer (some ⟨c, 0, none⟩), kv k] w fun x w' => x = .returned (.bool (hasK k L)) ∧ Own w' c m E B (rm k L) ∧ Fr (Sb c m L) w w' := by
  by_cases hm : hasK k L = true
  · obtain ⟨L1, e, L2, rfl, rfl⟩ := at_key hm
    refine (drop_hit h).mono ?_
    rintro x w' ⟨rfl, h1, h2⟩
    rw [hm, rm_at rfl h.kn]
    exact ⟨rfl, h1, h2⟩
  · have hm : hasK k L = false := by simpa using hm
    refine (drop_miss h hk hm).mono ?_
    rintro x w' ⟨rfl, rfl⟩
    rw [hm, rm_none hm]
    exact ⟨rfl, h, Fr.refl _ _⟩
/-- The list, its entry under key k moved to the front. -/
def used (k : KT) (L : List Ent) : List Ent := match L.find? (fun e => decide (e.k = k)) with | some e => e :: rm k L | none => L
def valOf (k : KT) (L : List Ent) : Int := match L.find? (fun e => decide (e.k = k)) with | some e => e.v | none => 0
theorem find_at {k : KT} {L1 L2 : List Ent} {e : Ent} (hk : e.k = k) (hn : ((L1 ++ e :: L2).map Ent.k).Nodup) : (L1 ++ e :: L2).find? (fun e => decide (e.k = k)) = some e := by
  subst hk
  rw [List.map_append, List.map_cons, List.nodup_append] at hn
  obtain ⟨n1, n2, n3⟩ := hn
  rw [List.find?_append, List.find?_eq_none.2]
  · simp
  · intro e' he'
    simp only [decide_eq_true_eq]
    exact fun hh => n3 _ (List.mem_map_of_mem he') _ List.mem_cons_self hh
theorem find_none {k : KT} {L : List Ent} (h : hasK k L = false) : L.find? (fun e => decide (e.k = k)) = none := by
  rw [List.find?_eq_none]
  intro e he
  simpa using hasK_false.1 h e he
theorem get.calls {w : World} {c m : Nat} {E B : Int} {L : List Ent} (h : Own w c m E B L) {k : KT} (hk : kok k) :
    Calls Try.prog 33 #[.pointer (some ⟨c, 0, none⟩), kv k] w fun x w' => x = .returned (.tuple #[.int .i64 (valOf k L), .bool (hasK k L)]) ∧ Own w' c m E B (used k L) ∧ Fr (Sb c m L) w w' := by
  by_cases hm : hasK k L = true
  · obtain ⟨L1, e, L2, rfl, rfl⟩ := at_key hm
    refine (get_hit h).mono ?_
    rintro x w' ⟨rfl, h1, h2⟩
    unfold used valOf
    rw [hm, find_at rfl h.kn]
    simp only
    rw [rm_at rfl h.kn]
    exact ⟨by first | rfl | trivial, h1, h2.mono (fun _ hh => .inr hh)⟩
  · have hm : hasK k L = false := by simpa using hm
    refine (get_miss h hk hm).mono ?_
    rintro x w' ⟨rfl, rfl⟩
    unfold used valOf
    rw [hm, find_none hm]
    exact ⟨by first | rfl | trivial, h, Fr.refl _ _⟩
/-- The oldest entries gone until there are at most E' of at most B' bytes. -/
def shr (E' B' : Int) : Nat → List Ent → List Ent
  | 0, L => L
  | n + 1, L => if L ≠ [] ∧ (E' < (L.length : Int) ∨ B' < tot L) then shr E' B' n L.dropLast else L
theorem shr_nil (E' B' : Int) : ∀ n, shr E' B' n [] = []
  | 0 => rfl
  | n + 1 => by simp [shr]
theorem shr_stop {E' B' : Int} {L : List Ent} (h : ¬ (L ≠ [] ∧ (E' < (L.length : Int) ∨ B' < tot L))) : ∀ n, shr E' B' n L = L
  | 0 => rfl
  | n + 1 => by rw [shr, if_neg h]
theorem shr_enough {E' B' : Int} : ∀ {n : Nat} {L : List Ent}, L.length ≤ n → shr E' B' n L = shr E' B' L.length L
  | 0, L, h => by
    obtain rfl : L = [] := List.eq_nil_of_length_eq_zero (by omega)
    rfl
  | n + 1, L, h => by
    by_cases hc : L ≠ [] ∧ (E' < (L.length : Int) ∨ B' < tot L)
    · obtain ⟨k, hk⟩ : ∃ k, L.length = k + 1 := ⟨L.length - 1, by have := List.length_pos_iff.2 hc.1; omega⟩
      rw [hk, shr, if_pos hc, shr, if_pos hc]
      have hd : L.dropLast.length = k := by rw [List.length_dropLast]; omega
      rw [shr_enough (n := n) (by omega), hd]
    · rw [shr_stop hc, shr_stop hc]
theorem shr_sub {E' B' : Int} : ∀ {n : Nat} {L : List Ent} {e : Ent}, e ∈ shr E' B' n L → e ∈ L
  | 0, L, e, h => h
  | n + 1, L, e, h => by
    rw [shr] at h
    split at h
    · exact (List.dropLast_sublist L).subset (shr_sub h)
    · exact h
theorem Sb.sub {c m : Nat} {L L' : List Ent} (hs : ∀ e ∈ L', e ∈ L) : ∀ k, Sb c m L' k → Sb c m L k := fun k h => h.imp id (Or.imp id (fun ⟨e, he, hb⟩ => ⟨e, hs e he, hb⟩))
theorem Own.drewN {w : World} {c m : Nat} {E B : Int} {L : List Ent} (h : Own w c m E B L) (q : Nat) : Own (w.drewN q) c m E B L := by
  obtain ⟨⟨o, n, hN, hR⟩, h2, h3, h4, h5, h6⟩ := h
  exact ⟨⟨o, n, hN.drewN q, hR⟩, h2, h3, h4.keep rfl, h5, h6⟩
set_option maxRecDepth 100000 in
set_option maxHeartbeats 4000000 in
theorem shrink.calls {w : World} {c m : Nat} {E B : Int} {L : List Ent} (h : Own w c m E B L) (mo sz : Int) (h1 : 0 ≤ mo) (h2 : mo ≤ E) (h3 : 0 ≤ sz) (h4 : sz ≤ B) (h5 : E ≤ 9223372036854775807) (h6 : B ≤ 9223372036854775807) :
    Calls Try.prog 49 #[.pointer (some ⟨c, 0, none⟩), .int .i64 mo, .int .i64 sz] w fun x w' => x = .returned (.tuple #[]) ∧ Own w' c m E B (shr (E - mo) (B - sz) L.length L) ∧ Fr (Sb c m L) w w' := by
  have HO := Aside0.mk h
  clear h
  go_enter Try.func49, Try.ntmps49
  go_wp2
  go_loopg [6] L.length (fun gk _ wr => ∃ L', Aside0 (Own wr c m E B L') ∧ Aside0 (shr (E - mo) (B - sz) gk L' = shr (E - mo) (B - sz) L.length L) ∧ Aside0 (L'.length ≤ gk) ∧ Aside0 (∀ e ∈ L', e ∈ L) ∧ Aside0 (Fr (Sb c m L) w wr))
  case atStart => exact ⟨L, HO, ⟨rfl⟩, ⟨Nat.le_refl _⟩, ⟨fun _ h => h⟩, ⟨Fr.refl _ _⟩⟩
  case round =>
    obtain ⟨L', HO', HS, HK, HI, HF⟩ := hrel
    obtain ⟨o, n, hN, hR⟩ := HO'.out.nodes
    have c0 : wr.cell? ⟨c, 0, none⟩ = some (.map (some m)) := (blk_cell hN.cb 0).trans rfl
    have c6 : wr.cell? ⟨c, 6, none⟩ = some (.int .i64 E) := (blk_cell hN.cb 6).trans rfl
    have c7 : wr.cell? ⟨c, 7, none⟩ = some (.int .i64 B) := (blk_cell hN.cb 7).trans rfl
    have c8 : wr.cell? ⟨c, 8, none⟩ = some (.int .i64 (tot L')) := (blk_cell hN.cb 8).trans rfl
    have hlen : ∀ (ty : TypeId) (q : Nat), (Builtin.len_ #[100] ty #[.map (some m)]).run Try.prog (wr.drewN q) = .ok (.int .i64 (L'.length : Int)) (wr.drewN q) := fun ty q => (MapOf.keep (w' := wr.drewN q) HO'.out.map rfl).len ty
    have hn0 := hN.at3 (.inl rfl)
    have e1 : IntKind.i64.wrap (E - mo) = E - mo := IntWalk.i64_in _ (by omega)
    have e2 : IntKind.i64.wrap (B - sz) = B - sz := IntWalk.i64_in _ (by omega)
    obtain ⟨NL, hNL⟩ : ∃ z : Int, z = (L'.length : Int) := ⟨_, rfl⟩
    obtain ⟨TL, hTL⟩ : ∃ z : Int, z = tot L' := ⟨_, rfl⟩
    rw [← hNL] at hlen
    rw [← hTL] at c8
    by_cases hnil : L'.length = 0
    · have hd : decide (0 < NL) = false := by simp [hnil, hNL]
      have hq : L' = [] := List.eq_nil_of_length_eq_zero hnil
      have HQ := Aside0.mk hq
      clear hnil hq hNL hTL
      clear hN hR hn0
      go_wp2
      go_quiet (fail)
      go_wp2
      go_returns
      have e3 := HS.out
      rw [HQ.out, shr_nil] at e3
      rw [← e3, ← HQ.out]
      exact ⟨rfl, HO'.out.drewN _, HF.out.drewN _⟩
    · have hd : decide (0 < NL) = true := by simp; omega
      by_cases h8 : E - mo < (L'.length : Int) ∨ B - sz < tot L'
      · obtain ⟨L1, e, rfl⟩ : ∃ L1 e, L' = L1 ++ [e] := ⟨L'.dropLast, L'.getLast (by intro hh; exact hnil (by rw [hh]; rfl)), (List.dropLast_concat_getLast _).symm⟩
        have hnc : wr.cell? ⟨c, 4, none⟩ = some (.pointer (some ⟨e.b, 0, none⟩)) := by
          rw [blk_cell hN.cb 4]
          show some (ptr c (n c)) = _
          rw [last hR, ptr, off_e (hN.eb e (by simp)).1]
        have hke : wr.cell? ⟨e.b, 0, none⟩ = some (kv e.k) := (blk_cell (hN.eb e (by simp)).2 0).trans rfl
        obtain ⟨g, rfl⟩ : ∃ g, gk = g + 1 := ⟨gk - 1, by have := HK.out; simp at this; omega⟩
        have hs := HS.out
        rw [shr, if_pos ⟨by simp, h8⟩, List.dropLast_concat] at hs
        have HS2 := Aside0.mk hs
        have hl := HK.out
        have HK2 : Aside0 (L1.length ≤ g) := ⟨by simp at hl; omega⟩
        have HD := Aside0.mk (fun q => drop_hit (HO'.out.drewN q))
        have HR : ∀ (w' : World), Own w' c m E B (L1 ++ []) ∧ Fr (Sb c m (L1 ++ e :: [])) wr w' → Aside0 (Own w' c m E B L1) ∧ Aside0 (∀ e ∈ L1, e ∈ L) ∧ Aside0 (Fr (Sb c m L) w w') := by
          rintro w' ⟨h1, h2⟩
          rw [List.append_nil] at h1
          exact ⟨⟨h1⟩, ⟨fun e' he' => HI.out e' (by simp [he'])⟩, ⟨HF.out.trans h2 (fun i _ hh => Sb.sub (fun e' he' => HI.out e' (by simpa using he')) i hh)⟩⟩
        have HRR := Aside0.mk HR
        have hc : decide (E - mo < NL) = true ∨ (decide (E - mo < NL) = false ∧ decide (B - sz < TL) = true) := by
          rw [hNL, hTL]
          rcases Decidable.em (E - mo < ((L1 ++ [e]).length : Int)) with h9 | h9
          · exact .inl (decide_eq_true h9)
          · exact .inr ⟨decide_eq_false h9, decide_eq_true (h8.resolve_left h9)⟩
        clear hs hl HS HK hN hR hn0 hnil h8 hNL hTL HR HI HF
        rcases hc with hd2 | ⟨hd2, hd3⟩
        all_goals
          go_wp2
          go_quiet (fail)
          go_wp2_with (go_at_call 48; (with_reducible refine (HD.out _).mono ?_); rintro x w1 ⟨rfl, h1, h2⟩; obtain ⟨G1, G2, G3⟩ := HRR.out _ ⟨h1, (Fr.refl _ _).drewN nq |>.trans h2 (fun _ _ hh => hh)⟩; clear h1 h2)
          go_roundg g
          case rel => exact ⟨L1, G1, HS2, HK2, G2, G3⟩
          case measure => omega
      · have hd2 : decide (E - mo < NL) = false := by rw [hNL]; exact decide_eq_false (fun h => h8 (.inl h))
        have hd3 : decide (B - sz < TL) = false := by rw [hTL]; exact decide_eq_false (fun h => h8 (.inr h))
        have hs := HS.out
        rw [shr_stop (fun hh => h8 hh.2)] at hs
        have HS2 := Aside0.mk hs
        clear hN hR hn0 hnil h8 hNL hTL hs HS
        go_wp2
        go_quiet (fail)
        go_wp2
        go_returns
        rw [← HS2.out]
        exact ⟨rfl, HO'.out.drewN _, HF.out.drewN _⟩
end Go.Proofs.Ytebmfbfmdbimdaa.F.Ls
