/- The document's table as the program reads it: its numbers, its groups. -/
import Derived.Test.YtebmfbfmdbimdaaCmap9
import Derived.Test.YtebmfbfmdbimdaaCmap8
import Derived.Test.YtebmfbfmdbimdaaCmap7
namespace Go.Proofs.Ytebmfbfmdbimdaa.F
open Go.RowKit Go.Proofs.YtebmfbfmdbimdaaW.PrintWords Go.Proofs.YtebmfbfmdbimdaaW.PrintLast Go.Proofs.YtebmfbfmdbimdaaW.PrintMore Go.Proofs.Ytebmfbfmdbimdaa.D Go.Proofs.Ytebmfbfmdbimdaa.rowQ
set_option linter.unusedVariables false
set_option linter.unusedSimpArgs false
theorem part_mid {l pre mid post : List Int} {at_ n : Int} (hl : l = pre ++ (mid ++ post)) (ha : at_ = pre.length) (hn : n = mid.length) : partL l at_ n = mid := by
  subst hl ha hn
  unfold partL
  rw [if_pos ⟨by omega, by omega, by simp; omega, by simp; omega⟩]
  rw [show ((pre.length : Int) + (mid.length : Int)).toNat = pre.length + mid.length by omega, Int.toNat_natCast, ← List.append_assoc, ← List.length_append, List.take_left', List.drop_left']
  · rfl
  · rfl
theorem num4_at {l pre post : List Int} {x at_ : Int} (hl : l = pre ++ (b4 x ++ post)) (ha : at_ = pre.length) (h0 : 0 ≤ x) (h1 : x < 4294967296) : num l at_ 4 = x := by
  unfold num
  rw [part_mid (n := 4) hl ha rfl]
  simp only [b4, numL]
  omega
theorem num2_at {l pre post : List Int} {x at_ : Int} (hl : l = pre ++ (b2 x ++ post)) (ha : at_ = pre.length) (h0 : 0 ≤ x) (h1 : x < 65536) : num l at_ 2 = x := by
  unfold num
  rw [part_mid (n := 2) hl ha rfl]
  simp only [b2, numL]
  omega
/-- The end of the group ahead. -/
def prevT (L : List S56) : Nat → Int
  | 0 => -1
  | i + 1 => (L.getD i z56).f1
/-- Groups that a table may hold. -/
structure Good (L : List S56) : Prop where
  few : L.length ≤ 4096
  fit : ∀ z ∈ L, fits z
  up : ∀ i, i < L.length → (L.getD i z56).f0 ≤ (L.getD i z56).f1 ∧ (L.getD i z56).f1 ≤ 1114111 ∧ prevT L i < (L.getD i z56).f0
theorem subB_split {f : Int} {L : List S56} {i : Nat} (hi : i < L.length) : ∃ pre post, (pre.length : Int) = 16 + 12 * i ∧ subB f L = pre ++ (b4 (L.getD i z56).f0 ++ (b4 (L.getD i z56).f1 ++ (b4 (L.getD i z56).f2 ++ post))) := by
  have e : L.getD i z56 = L[i] := by rw [List.getD_eq_getElem?_getD, List.getElem?_eq_getElem hi]; rfl
  refine ⟨twos [f, 0] ++ b4 (16 + 12 * L.length) ++ [0, 0, 0, 0] ++ b4 L.length ++ g12s (L.take i), g12s (L.drop (i + 1)), ?_, ?_⟩
  · simp only [List.length_append, twos_len, g12s_len, List.length_take]
    simp [b4]
    omega
  · have hg : g12s L = g12s (L.take i) ++ (g12 L[i] ++ g12s (L.drop (i + 1))) := by
      conv => lhs; rw [← List.take_append_drop i L, List.drop_eq_getElem_cons hi]
      unfold g12s
      rw [List.map_append, List.map_cons, List.flatten_append, List.flatten_cons]
    rw [e]
    unfold subB
    rw [hg]
    unfold g12
    simp only [List.append_assoc]
theorem sub_len (f : Int) (L : List S56) : (subB f L).length = 16 + 12 * L.length := by
  unfold subB
  simp only [List.length_append, twos_len, g12s_len]
  simp [b4]
theorem fits_at {L : List S56} (h : Good L) {i : Nat} (hi : i < L.length) : fits (L.getD i z56) := by
  rw [List.getD_eq_getElem?_getD, List.getElem?_eq_getElem hi]
  exact h.fit _ (List.getElem_mem hi)
theorem grp_sub {f : Int} {L : List S56} (h : Good L) {i : Nat} (hi : i < L.length) : num (subB f L) (16 + 12 * i) 4 = (L.getD i z56).f0 ∧ num (subB f L) (20 + 12 * i) 4 = (L.getD i z56).f1 ∧ num (subB f L) (24 + 12 * i) 4 = (L.getD i z56).f2 := by
  obtain ⟨pre, post, hp, hs⟩ := subB_split (f := f) hi
  obtain ⟨⟨a0, a1⟩, ⟨c0, c1⟩, ⟨d0, d1⟩⟩ := fits_at h hi
  refine ⟨num4_at hs hp.symm a0 a1, num4_at (pre := pre ++ b4 (L.getD i z56).f0) (post := b4 (L.getD i z56).f2 ++ post) (by rw [hs]; simp only [List.append_assoc]) (by simp [b4]; omega) c0 c1, num4_at (pre := pre ++ b4 (L.getD i z56).f0 ++ b4 (L.getD i z56).f1) (post := post) (by rw [hs]; simp only [List.append_assoc]) (by simp [b4]; omega) d0 d1⟩
theorem prev_sub {f : Int} {L : List S56} (h : Good L) {i : Nat} (hi : i ≤ L.length) : prevTo (subB f L) i = prevT L i := by
  cases i with
  | zero => rfl
  | succ i => exact (grp_sub h (by omega)).2.1
theorem byte_b4 {x z : Int} (h : z ∈ b4 x) : 0 ≤ z ∧ z ≤ 255 := by
  simp only [b4, List.mem_cons, List.not_mem_nil, or_false] at h
  omega
theorem byte_twos {l : List Int} {z : Int} (h : z ∈ twos l) : 0 ≤ z ∧ z ≤ 255 := by
  unfold twos at h
  obtain ⟨y, hy, hz⟩ := List.mem_flatten.1 h
  obtain ⟨x, _, rfl⟩ := List.mem_map.1 hy
  simp only [b2, List.mem_cons, List.not_mem_nil, or_false] at hz
  omega
theorem byte_g {L : List S56} {z : Int} (h : z ∈ g12s L) : 0 ≤ z ∧ z ≤ 255 := by
  unfold g12s at h
  obtain ⟨y, hy, hz⟩ := List.mem_flatten.1 h
  obtain ⟨x, _, rfl⟩ := List.mem_map.1 hy
  unfold g12 at hz
  rcases List.mem_append.1 hz with hz | hz
  · rcases List.mem_append.1 hz with hz | hz <;> exact byte_b4 hz
  · exact byte_b4 hz
theorem byte_tab {P E f : Int} {L : List S56} {z : Int} (h : z ∈ tabB P E (subB f L)) : 0 ≤ z ∧ z ≤ 255 := by
  unfold tabB subB at h
  simp only [List.mem_append] at h
  rcases h with (h | h) | ((((h | h) | h) | h) | h)
  · exact byte_twos h
  · simp only [List.mem_cons, List.not_mem_nil, or_false] at h; omega
  · exact byte_twos h
  · exact byte_b4 h
  · simp only [List.mem_cons, List.not_mem_nil, or_false] at h; omega
  · exact byte_b4 h
  · exact byte_g h
theorem tab_drop (P E : Int) (sub : List Int) : (tabB P E sub).drop 12 = sub := by
  unfold tabB
  exact List.drop_left' (by simp [twos_len])
theorem tab_of {P E f k : Int} {L : List S56} (h : Good L) (hP : 0 ≤ P ∧ P < 65536) (hE : 0 ≤ E ∧ E < 65536) (hff : f = 12 ∨ f = 13) (hk : idxP P E rankL = k) (h0 : 0 ≤ k) (hv : (P == 0 && E == 5) = false) : Tab (tabB P E (subB f L)) P E k f L.length := by
  have hs := sub_len f L
  have hfew := h.few
  have ht : (tabB P E (subB f L)).length = 12 + (16 + 12 * L.length) := by
    unfold tabB
    simp only [List.length_append, twos_len, hs]
    simp
  have e2 : twos [0, 1, P, E] = b2 0 ++ (b2 1 ++ (b2 P ++ b2 E)) := by simp [twos]
  refine ⟨fun z hz => byte_tab hz, by omega, by omega, ?_, ?_, ?_, ?_, ?_, hk, h0, hv, ?_, hff, ?_, hfew, ?_, ?_⟩
  · exact num2_at (pre := []) (post := b2 1 ++ (b2 P ++ (b2 E ++ ([0, 0, 0, 12] ++ subB f L)))) (by unfold tabB; rw [e2]; simp only [List.append_assoc, List.nil_append]) rfl (by decide) (by decide)
  · exact num2_at (pre := b2 0) (post := b2 P ++ (b2 E ++ ([0, 0, 0, 12] ++ subB f L))) (by unfold tabB; rw [e2]; simp only [List.append_assoc]) rfl (by decide) (by decide)
  · exact num2_at (pre := b2 0 ++ b2 1) (post := b2 E ++ ([0, 0, 0, 12] ++ subB f L)) (by unfold tabB; rw [e2]; simp only [List.append_assoc]) rfl hP.1 hP.2
  · exact num2_at (pre := b2 0 ++ (b2 1 ++ b2 P)) (post := [0, 0, 0, 12] ++ subB f L) (by unfold tabB; rw [e2]; simp only [List.append_assoc]) rfl hE.1 hE.2
  · exact num4_at (pre := twos [0, 1, P, E]) (post := subB f L) (x := 12) (by unfold tabB; rw [List.append_assoc]; rfl) (by rw [twos_len]; rfl) (by decide) (by decide)
  · rw [tab_drop]
    exact num2_at (pre := []) (post := b2 0 ++ (b4 (16 + 12 * L.length) ++ ([0, 0, 0, 0] ++ (b4 L.length ++ g12s L)))) (by unfold subB; simp [twos]) rfl (by omega) (by omega)
  · rw [tab_drop]
    exact num4_at (pre := twos [f, 0] ++ (b4 (16 + 12 * L.length) ++ [0, 0, 0, 0])) (post := g12s L) (by unfold subB; simp only [List.append_assoc]) (by simp only [List.length_append, twos_len]; simp [b4]) (by omega) (by omega)
  · intro i hi
    rw [tab_drop, (grp_sub h hi).2.1]
    exact (h.up i hi).2.1
  · intro i hi
    rw [tab_drop, (grp_sub h hi).2.1, (grp_sub h hi).1, prev_sub h (by omega)]
    exact ⟨(h.up i hi).1, (h.up i hi).2.2⟩
/-- The groups as the program keeps them. -/
def lg (f : Int) (L : List S56) : List (List Int) := L.map fun z => [z.f0, z.f1, z.f2, 13 - f]
theorem lg_len (f : Int) (L : List S56) : (lg f L).length = L.length := List.length_map ..
theorem lg_at (f : Int) (L : List S56) {i : Nat} (hi : i < L.length) : (lg f L).getD i [] = [(L.getD i z56).f0, (L.getD i z56).f1, (L.getD i z56).f2, 13 - f] := by
  unfold lg
  rw [List.getD_eq_getElem?_getD, List.getElem?_map, List.getElem?_eq_getElem hi, List.getD_eq_getElem?_getD, List.getElem?_eq_getElem hi]
  rfl
theorem grps_lg {f : Int} {L : List S56} (h : Good L) : grps (subB f L) f L.length = (lg f L).flatten := by
  unfold grps
  congr 1
  apply List.ext_getElem
  · simp [lg]
  · intro i h1 h2
    have hi : i < L.length := by simpa using h1
    obtain ⟨a, b, c⟩ := grp_sub (f := f) h hi
    have e : L.getD i z56 = L[i] := by rw [List.getD_eq_getElem?_getD, List.getElem?_eq_getElem hi]; rfl
    simp only [List.getElem_map, List.getElem_range, grp, lg]
    rw [a, b, c, e]
theorem lg4 (f : Int) (L : List S56) : ∀ z ∈ lg f L, z.length = 4 := by
  intro z hz
  obtain ⟨y, _, rfl⟩ := List.mem_map.1 hz
  rfl
theorem up_mono {L : List S56} (h : Good L) : ∀ a b, a ≤ b → b < L.length → (L.getD a z56).f1 ≤ (L.getD b z56).f1 := by
  intro a b hab hb
  obtain ⟨d, rfl⟩ : ∃ d, b = a + d := ⟨b - a, by omega⟩
  clear hab
  induction d with
  | zero => exact Int.le_refl _
  | succ d ih =>
    have h1 := ih (by omega)
    have h2 := h.up (a + d + 1) hb
    have h3 : prevT L (a + d + 1) = (L.getD (a + d) z56).f1 := rfl
    rw [show a + (d + 1) = a + d + 1 by omega]
    omega
theorem lg_mono {f : Int} {L : List S56} (h : Good L) : ∀ a b, a ≤ b → b < (lg f L).length → ((lg f L).getD a []).getD 1 0 ≤ ((lg f L).getD b []).getD 1 0 := by
  intro a b hab hb
  rw [lg_len] at hb
  rw [lg_at f L hb, lg_at f L (show a < L.length by omega)]
  exact up_mono h a b hab hb
theorem lg_ok {f : Int} {L : List S56} (h : Good L) (hff : f = 12 ∨ f = 13) : ∀ z ∈ lg f L, 0 ≤ z.getD 0 0 ∧ 0 ≤ z.getD 2 0 ∧ z.getD 2 0 ≤ 4294967296 ∧ (z.getD 3 0 = 0 ∨ z.getD 3 0 = 1) := by
  intro z hz
  obtain ⟨y, hy, rfl⟩ := List.mem_map.1 hz
  obtain ⟨⟨a0, a1⟩, _, ⟨c0, c1⟩⟩ := h.fit y hy
  have e0 : [y.f0, y.f1, y.f2, 13 - f].getD 0 0 = y.f0 := rfl
  have e2 : [y.f0, y.f1, y.f2, 13 - f].getD 2 0 = y.f2 := rfl
  have e3 : [y.f0, y.f1, y.f2, 13 - f].getD 3 0 = 13 - f := rfl
  rw [e0, e2, e3]
  omega
end Go.Proofs.Ytebmfbfmdbimdaa.F
