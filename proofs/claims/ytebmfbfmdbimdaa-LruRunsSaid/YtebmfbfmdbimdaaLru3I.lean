/- Package lru's cache: an entry dropped (keys: int). -/
import Derived.Test.YtebmfbfmdbimdaaLru2I
namespace Go.Proofs.Ytebmfbfmdbimdaa.F.Li
open Go.RowKit Go.Proofs.YtebmfbfmdbimdaaW.PrintWords Go.Proofs.YtebmfbfmdbimdaaW.PrintLast Go.Proofs.YtebmfbfmdbimdaaW.PrintMore
set_option linter.unusedVariables false
set_option linter.unusedSimpArgs false
theorem wrap_in {z : Int} (h1 : -9223372036854775808 ≤ z) (h2 : z ≤ 9223372036854775807) : wrap64 z = z := by
  unfold wrap64
  omega
set_option maxRecDepth 100000 in
set_option maxHeartbeats 4000000 in
theorem drop_hit {w : World} {c m : Nat} {E B : Int} {L1 L2 : List Ent} {e : Ent} (h : Own w c m E B (L1 ++ e :: L2)) :
    Calls Try.prog 16 #[.pointer (some ⟨c, 0, none⟩), kv e.k] w fun x w' => x = .returned (.bool true) ∧ Own w' c m E B (L1 ++ L2) ∧ Fr (Sb c m (L1 ++ e :: L2)) w w' := by
  obtain ⟨o, n, hN, hR⟩ := h.nodes
  have he : e ∈ L1 ++ e :: L2 := by simp
  have hke : kok e.k := by obtain ⟨D, _, _, h3, _⟩ := h.map; exact (h3 e he).1
  have c0 : w.cell? ⟨c, 0, none⟩ = some (.map (some m)) := (blk_cell hN.cb 0).trans rfl
  have hrun := h.map.hit he
  have hnd := h.nd
  rw [List.map_append, List.map_cons] at hnd
  have hR' := hR
  rw [List.map_append, List.map_cons] at hR'
  have hR1 := hR'.unlink hnd
  have hn1 : (c :: (L1.map Ent.b ++ L2.map Ent.b)).Nodup := hnd.sublist (List.Sublist.cons_cons _ (List.Sublist.append (List.Sublist.refl _) (List.sublist_cons_self _ _)))
  have hrm : rm e.k (L1 ++ e :: L2) = L1 ++ L2 := rm_at rfl h.kn
  have hsub : ∀ e' ∈ L1 ++ L2, e' ∈ L1 ++ e :: L2 := fun e' he' => by simp at he' ⊢; rcases he' with h | h <;> simp [h]
  have hT : tot (L1 ++ e :: L2) = e.s + tot (L1 ++ L2) := by simp only [tot_cons, tot_append]; omega
  have hpos : ∀ e' ∈ L1 ++ L2, 0 ≤ e'.s := fun e' he' => h.pos e' (hsub e' he')
  have hp1 := tot_nonneg hpos
  have hp2 := h.pos e he
  have hbig := h.big
  have hW : (tot (L1 ++ e :: L2) - e.s + 9223372036854775808) % 18446744073709551616 - 9223372036854775808 = tot (L1 ++ L2) := by
    rw [hT] at hbig ⊢
    omega
  have hD := fun (w1 : World) (hf : Fr (Sn c (L1 ++ e :: L2)) w w1) => (h.map.keep (hf.block m h.map.lt (map_apart hN h.map))).drop h.kn hke
  have HU := Aside0.mk (unlink.calls hN he (near hR).1 (near hR).2)
  have HD := Aside0.mk hD
  have HX := Aside0.mk (fun (w3 : World) (hN3 : Nodes w3 c m E B (tot (L1 ++ L2)) (L1 ++ e :: L2) _ _) (hm : MapOf w3 m (rm e.k (L1 ++ e :: L2))) =>
    (⟨⟨_, _, hN3.sub hsub, by rw [List.map_append]; exact hR1⟩, by rw [List.map_append]; exact hn1, h.kn.sublist (List.Sublist.map _ (List.Sublist.append (List.Sublist.refl _) (List.sublist_cons_self _ _))), hrm ▸ hm, hpos, by omega⟩ : Own w3 c m E B (L1 ++ L2)))
  have HC := Aside0.mk (fun (w2 : World) {o' n' : Nat → Nat} {H : Int} (hN2 : Nodes w2 c m E B H (L1 ++ e :: L2) o' n') =>
    (⟨(blk_cell hN2.cb 8).trans rfl, blk_frozen hN2.cb 8, (blk_cell (hN2.eb e he).2 2).trans rfl, (blk_cell hN2.cb 0).trans rfl⟩ : w2.cell? ⟨c, 8, none⟩ = some (.int .i64 H) ∧ w2.frozen? ⟨c, 8, none⟩ = false ∧ w2.cell? ⟨e.b, 2, none⟩ = some (.int .i64 e.s) ∧ w2.cell? ⟨c, 0, none⟩ = some (.map (some m))))
  have HK := Aside0.mk (key_of hke)
  have HWr := Aside0.mk hW
  clear h hN hR hR' hR1 hnd hn1 he hT hrm hsub hpos hp1 hp2 hbig hke hD hW
  go_enter Try.func16, Try.ntmps16
  go_wp2_with (first | (go_at_call 37; (with_reducible refine HU.out.mono ?_); rintro x w1 ⟨rfl, hN1, hF1⟩; have hm1 := (HC.out _ hN1).2.2.2; have HN1 := Aside0.mk hN1; have HF1 := Aside0.mk hF1; obtain ⟨D, hd1, hd2⟩ := HD.out _ hF1; have HD1 := Aside0.mk hd1; have HD2 := Aside0.mk hd2; clear hN1 hF1 hd1 hd2) | (at_delete; refine wpList_delete_own _ rfl _ _ 75 3 rfl 76 keyed Try.underlying75 PR m (L1 ++ e :: L2).length D rfl HD1.out _ _ rfl HK.out ?_; intro w2 hown2 hturn2; have hN2 := turn HN1.out hturn2; have HF2 := Aside0.mk (Fr.map (S := Sb c m (L1 ++ e :: L2)) (HF1.out.mono (fun _ hh => .inr hh)) hturn2 (.inl rfl)); have HM2 := Aside0.mk (HD2.out _ hown2); obtain ⟨k1, k2, k3, _⟩ := HC.out _ hN2; have HN2 := Aside0.mk hN2; clear hN2 HD1 HD2 HN1 HF1 hown2 hturn2 hm1 c0 hrun))
  go_region
  all_goals (
    rw [IntKind.wrap_i64, HWr.out]
    clear k1 k2 k3
    go_wp2
    go_returns
    exact ⟨rfl, HX.out _ ((HN2.out.held _).drew) (HM2.out.keep (Below.heap_setCell _ _ _ _ (HM2.out.ne HN2.out.cb))), (HF2.out.set (p := ⟨c, 8, none⟩) (.inr (.inl rfl)) _).drew⟩)
end Go.Proofs.Ytebmfbfmdbimdaa.F.Li
