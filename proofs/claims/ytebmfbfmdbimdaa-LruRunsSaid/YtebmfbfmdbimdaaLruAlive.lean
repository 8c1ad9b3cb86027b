/- The law package's own example of a cache, walked: it answers true. -/
import Derived.Test.YtebmfbfmdbimdaaLru6S
namespace Go.Proofs.Ytebmfbfmdbimdaa.F.Ls
open Go.RowKit Go.Proofs.YtebmfbfmdbimdaaW.PrintWords Go.Proofs.YtebmfbfmdbimdaaW.PrintLast Go.Proofs.YtebmfbfmdbimdaaW.PrintMore
set_option linter.unusedVariables false
set_option linter.unusedSimpArgs false
abbrev sa : ByteArray := ⟨#[97]⟩
abbrev sb : ByteArray := ⟨#[98]⟩
abbrev sc : ByteArray := ⟨#[99]⟩
theorem put_same {w : World} {c m : Nat} {E B : Int} {L L' : List Ent} (h : Own w c m E B L) {k : KT} (hk : kok k) (v sz : Int) (h1 : 0 ≤ sz) (h2 : sz ≤ B) (h3 : 0 < E) (h4 : E ≤ 9223372036854775807) (h5 : B ≤ 9223372036854775807) (hlen : L.length < maxLen) {base : Nat} (hb : base ≤ w.heap.size) (hbl : ∀ e ∈ L, base ≤ e.b) (hbc : base ≤ c) (hbm : base ≤ m)
    (hL : shr (E - 1) (B - sz) (rm k L).length (rm k L) = L') :
    Calls Try.prog 32 #[.pointer (some ⟨c, 0, none⟩), kv k, .int .i64 v, .int .i64 sz] w fun x w' => ∃ b, x = .returned (.bool true) ∧ Own w' c m E B (⟨b, k, v, sz⟩ :: L') ∧ base ≤ b ∧ Below base w w' := by
  refine (put_yes h hk v sz h1 h2 h3 h4 h5 hlen).mono ?_
  rintro x w' ⟨rfl, ⟨b, hb1, hO⟩, hF⟩
  rw [hL] at hO
  refine ⟨b, rfl, hO, by omega, hF.below (fun i hi => ?_) hb⟩
  rcases hi with hi | hi | ⟨e, he, hi⟩
  · omega
  · omega
  · have := hbl e he; omega
set_option maxRecDepth 100000 in
set_option maxHeartbeats 8000000 in
theorem alive.calls (w : World) : Calls Try.prog 9 #[] w fun e w' => e = .returned (.bool true) ∧ Below w.heap.size w w' := by
  have h1 : kok sa := by show _ ≤ maxLen; decide
  have h2 : kok sb := by show _ ≤ maxLen; decide
  have h3 : kok sc := by show _ ≤ maxLen; decide
  have N := Aside0.mk (new_yes (w := w) 2 100 (by decide) (by decide) (by decide) (by decide))
  have P1 := Aside0.mk (fun (W : World) (c m : Nat) (h : Own W c m 2 100 []) (hb : w.heap.size ≤ W.heap.size) (hc : w.heap.size ≤ c) (hm : w.heap.size ≤ m) =>
    put_same h h1 1 1 (by decide) (by decide) (by decide) (by decide) (by decide) (by simp only [List.length_cons, List.length_nil]; decide) hb (fun e he => by simp at he) hc hm (L' := []) rfl)
  have P2 := Aside0.mk (fun (W : World) (c m b1 : Nat) (h : Own W c m 2 100 [⟨b1, sa, 1, 1⟩]) (hb : w.heap.size ≤ W.heap.size) (hc : w.heap.size ≤ c) (hm : w.heap.size ≤ m) (hb1 : w.heap.size ≤ b1) =>
    put_same h h2 2 1 (by decide) (by decide) (by decide) (by decide) (by decide) (by simp only [List.length_cons, List.length_nil]; decide) hb (fun e he => by simp at he; rw [he]; exact hb1) hc hm (L' := [⟨b1, sa, 1, 1⟩]) (by
      have : rm sb [⟨b1, sa, 1, 1⟩] = [⟨b1, sa, 1, 1⟩] := rm_none (by simp [hasK])
      rw [this]
      simp [shr, tot]))
  have G := Aside0.mk (fun (W : World) (c m b1 b2 : Nat) (h : Own W c m 2 100 [⟨b2, sb, 2, 1⟩, ⟨b1, sa, 1, 1⟩]) => get.calls h h1)
  have U : Aside0 (∀ b1 b2 : Nat, used sa [⟨b2, sb, 2, 1⟩, ⟨b1, sa, 1, 1⟩] = [⟨b1, sa, 1, 1⟩, ⟨b2, sb, 2, 1⟩] ∧ valOf sa [⟨b2, sb, 2, 1⟩, ⟨b1, sa, 1, 1⟩] = 1 ∧ hasK sa [⟨b2, sb, 2, 1⟩, ⟨b1, sa, 1, 1⟩] = true) := ⟨fun b1 b2 => by
    have e1 : sb ≠ sa := by decide
    refine ⟨?_, ?_, ?_⟩ <;> simp [used, rm, valOf, hasK, e1]⟩
  have P3 := Aside0.mk (fun (W : World) (c m b1 b2 : Nat) (h : Own W c m 2 100 [⟨b1, sa, 1, 1⟩, ⟨b2, sb, 2, 1⟩]) (hb : w.heap.size ≤ W.heap.size) (hc : w.heap.size ≤ c) (hm : w.heap.size ≤ m) (hb1 : w.heap.size ≤ b1) (hb2 : w.heap.size ≤ b2) =>
    put_same h h3 3 1 (by decide) (by decide) (by decide) (by decide) (by decide) (by simp only [List.length_cons, List.length_nil]; decide) hb (fun e he => by simp at he; rcases he with rfl | rfl <;> assumption) hc hm (L' := [⟨b1, sa, 1, 1⟩]) (by
      have : rm sc [⟨b1, sa, 1, 1⟩, ⟨b2, sb, 2, 1⟩] = [⟨b1, sa, 1, 1⟩, ⟨b2, sb, 2, 1⟩] := rm_none (by simp [hasK])
      rw [this]
      simp [shr, tot]))
  have K := Aside0.mk (fun (W : World) (c m b1 b3 : Nat) (h : Own W c m 2 100 [⟨b3, sc, 3, 1⟩, ⟨b1, sa, 1, 1⟩]) => keys.calls h (by simp only [List.length_cons, List.length_nil]; decide))
  clear h1 h2 h3
  go_enter Try.func9, Try.ntmps9
  go_wp2_with (first | (go_at_call 31; ((refine N.out.mono ?_); rintro e w1 ⟨c, m, rfl, hc, hm, hO, hB⟩; have O1 := Aside0.mk hO; have B1 := Aside0.mk hB; have C1 := Aside0.mk hc; have M1 := Aside0.mk hm; have n1 : ∀ (W : World), (binOp BinOp.eql 68 (.pointer (some ⟨c, 0, none⟩)) (.pointer none)).run Try.prog W = .ok (.bool false) W := (fun _ => by kernel_rfl); clear hO hB hc hm N)) | (go_at_call 32; refine (P1.out _ c m O1.out B1.out.size C1.out M1.out).mono ?_; rintro e w2 ⟨b1, rfl, hO, hb1, hB⟩; have O2 := Aside0.mk hO; have D1 := Aside0.mk hb1; have B2 := Aside0.mk (B1.out.trans hB); clear hO hb1 hB P1 O1 B1) | (go_at_call 32; refine (P2.out _ c m b1 O2.out B2.out.size C1.out M1.out D1.out).mono ?_; rintro e w3 ⟨b2, rfl, hO, hb2, hB⟩; have O3 := Aside0.mk hO; have D2 := Aside0.mk hb2; have B3 := Aside0.mk (B2.out.trans hB); clear hO hb2 hB P2 O2 B2) | (go_at_call 33; refine (G.out _ c m b1 b2 O3.out).mono ?_; rintro e w4 ⟨rfl, hO, hF⟩; rw [(U.out b1 b2).1] at hO; rw [(U.out b1 b2).2.1, (U.out b1 b2).2.2]; have O4 := Aside0.mk hO; have B4 := Aside0.mk (B3.out.trans (hF.below (base := w.heap.size) (by rintro i (hi | hi | ⟨e, he, hi⟩); (rw [hi]; exact M1.out); (rw [hi]; exact C1.out); (simp at he; rcases he with rfl | rfl; (rw [← hi]; exact D2.out); (rw [← hi]; exact D1.out))) B3.out.size)); clear hO hF G O3 B3) | (go_at_call 32; refine (P3.out _ c m b1 b2 O4.out B4.out.size C1.out M1.out D1.out D2.out).mono ?_; rintro e w5 ⟨b3, rfl, hO, hb3, hB⟩; have O5 := Aside0.mk hO; have B5 := Aside0.mk (B4.out.trans hB); clear hO hb3 hB P3 O4 B4) | (go_at_call 34; refine (K.out _ c m b1 b3 O5.out).mono ?_; rintro e w6 ⟨v, rfl, hR, hB⟩; obtain ⟨g, cap, hv, hgb, hgl⟩ := hR.form (by simp); subst hv; have k0 := hR.cells (g := g) rfl 0 (.string sc) rfl; have k1 := hR.cells (g := g) rfl 1 (.string sa) rfl; rw [add_plain] at k0 k1; have B6 := Aside0.mk (B5.out.trans (hB.mono B5.out.size)); clear hR hB hgb hgl K O5 B5))
  go_ret
  exact ⟨rfl, B6.out⟩
end Go.Proofs.Ytebmfbfmdbimdaa.F.Ls
