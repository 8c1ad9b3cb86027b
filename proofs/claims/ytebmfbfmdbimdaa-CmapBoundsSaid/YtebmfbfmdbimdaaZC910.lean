/- The bytes of the document's table with one subtable of form 12 or 13, in plain numbers. The document's table as the program reads it: its numbers, its groups. -/
import Derived.Test.YtebmfbfmdbimdaaDx1
import Derived.Test.YtebmfbfmdbimdaaZCmap5
import Derived.Test.YtebmfbfmdbimdaaZCmap8
import Derived.Test.YtebmfbfmdbimdaaZC7
namespace Go.Proofs.Ytebmfbfmdbimdaa.F
open Go.RowKit Go.Proofs.YtebmfbfmdbimdaaW.PrintWords Go.Proofs.YtebmfbfmdbimdaaW.PrintLast Go.Proofs.YtebmfbfmdbimdaaW.PrintMore Go.Proofs.Ytebmfbfmdbimdaa.D
set_option linter.unusedVariables false
set_option linter.unusedSimpArgs false
def b4 (x : Int) : List Int := [x / 16777216 % 256, x / 65536 % 256, x / 256 % 256, x % 256]
def b2 (x : Int) : List Int := [x / 256 % 256, x % 256]
theorem w64n {x : Int} (h0 : 0 ≤ x) (h1 : x < 4611686018427387904) : wrap64 x = x := by unfold wrap64; omega
theorem big4 (n : Nat) (x : Int) (h0 : 0 ≤ x) (h1 : x < 4294967296) : serifref02_Big.f (n + 5) x 4 = some (b4 x) := by
  have e1 : wrap64 (Int.tdiv x 256) = x / 256 := by rw [Int.tdiv_eq_ediv_of_nonneg h0, w64n (by omega) (by omega)]
  have e2 : wrap64 (Int.tdiv (x / 256) 256) = x / 65536 := by rw [Int.tdiv_eq_ediv_of_nonneg (by omega), w64n (by omega) (by omega)]; omega
  have e3 : wrap64 (Int.tdiv (x / 65536) 256) = x / 16777216 := by rw [Int.tdiv_eq_ediv_of_nonneg (by omega), w64n (by omega) (by omega)]; omega
  have m0 : Int.tmod x 256 % 256 = x % 256 := by rw [Int.tmod_eq_emod_of_nonneg h0]; omega
  have m1 : Int.tmod (x / 256) 256 % 256 = x / 256 % 256 := by rw [Int.tmod_eq_emod_of_nonneg (by omega)]; omega
  have m2 : Int.tmod (x / 65536) 256 % 256 = x / 65536 % 256 := by rw [Int.tmod_eq_emod_of_nonneg (by omega)]; omega
  have m3 : Int.tmod (x / 16777216) 256 % 256 = x / 16777216 % 256 := by rw [Int.tmod_eq_emod_of_nonneg (by omega)]; omega
  have w3 : wrap64 (4 - 1) = 3 := by unfold wrap64; omega
  have w2 : wrap64 (3 - 1) = 2 := by unfold wrap64; omega
  have w1 : wrap64 (2 - 1) = 1 := by unfold wrap64; omega
  have w0 : wrap64 (1 - 1) = 0 := by unfold wrap64; omega
  have wm : wrap64 (0 - 1) = -1 := by unfold wrap64; omega
  unfold serifref02_Big.f
  rw [if_pos (by decide), if_pos (by decide), w3]
  rw [show (4 : Int).toNat = 4 from rfl, show List.replicate 4 (0 : Int) = [0, 0, 0, 0] from rfl]
  rw [serifref02_Big.l0, if_pos (by decide), if_pos (by decide), if_pos (by simp), e1, m0, w2]
  rw [serifref02_Big.l0, if_pos (by decide), if_pos (by decide), if_pos (by simp), e2, m1, w1]
  rw [serifref02_Big.l0, if_pos (by decide), if_pos (by decide), if_pos (by simp), e3, m2, w0]
  rw [serifref02_Big.l0, if_pos (by decide), if_pos (by decide), if_pos (by simp), m3, wm]
  rw [serifref02_Big.l0, if_neg (by decide)]
  rfl
theorem big2 (n : Nat) (x : Int) (h0 : 0 ≤ x) (h1 : x < 65536) : serifref02_Big.f (n + 3) x 2 = some (b2 x) := by
  have e1 : wrap64 (Int.tdiv x 256) = x / 256 := by rw [Int.tdiv_eq_ediv_of_nonneg h0, w64n (by omega) (by omega)]
  have m0 : Int.tmod x 256 % 256 = x % 256 := by rw [Int.tmod_eq_emod_of_nonneg h0]; omega
  have m1 : Int.tmod (x / 256) 256 % 256 = x / 256 % 256 := by rw [Int.tmod_eq_emod_of_nonneg (by omega)]; omega
  have w1 : wrap64 (2 - 1) = 1 := by unfold wrap64; omega
  have w0 : wrap64 (1 - 1) = 0 := by unfold wrap64; omega
  have wm : wrap64 (0 - 1) = -1 := by unfold wrap64; omega
  unfold serifref02_Big.f
  rw [if_pos (by decide), if_pos (by decide), w1]
  rw [show (2 : Int).toNat = 2 from rfl, show List.replicate 2 (0 : Int) = [0, 0] from rfl]
  rw [serifref02_Big.l0, if_pos (by decide), if_pos (by decide), if_pos (by simp), e1, m0, w0]
  rw [serifref02_Big.l0, if_pos (by decide), if_pos (by decide), if_pos (by simp), m1, wm]
  rw [serifref02_Big.l0, if_neg (by decide)]
  rfl
/-- Numbers of two bytes each. -/
def twos (l : List Int) : List Int := (l.map b2).flatten
theorem twos_len (l : List Int) : (twos l).length = 2 * l.length := by
  unfold twos
  induction l with
  | nil => rfl
  | cons a l ih => rw [List.map_cons, List.flatten_cons, List.length_append, ih, List.length_cons]; simp [b2]; omega
theorem two_l (l : List Int) (h : ∀ z ∈ l, 0 ≤ z ∧ z < 65536) (hl : l.length < 1000) : ∀ (d i n : Nat) (x : List Int), i + d = l.length → x.length = 2 * i → serifref02_Two.l0 (n + d + 4) x l (l.length : Int) (i : Int) = some (x ++ twos (l.drop i))
  | 0, i, n, x, hi, hx => by
    rw [serifref02_Two.l0, if_neg (by omega), List.drop_of_length_le (by omega)]
    simp [twos]
  | d + 1, i, n, x, hi, hx => by
    have hlt : i < l.length := by omega
    have hr : rd l (i : Int) = l[i] := by unfold rd; rw [Int.toNat_natCast, List.getD_eq_getElem?_getD, List.getElem?_eq_getElem hlt]; rfl
    have hz := h l[i] (List.getElem_mem hlt)
    have hw : wrap64 ((i : Int) + 1) = ((i + 1 : Nat) : Int) := by rw [w64n (by omega) (by omega)]; omega
    rw [show n + (d + 1) + 4 = (n + d + 4) + 1 by omega, serifref02_Two.l0, if_pos (by omega), if_pos (by omega), if_pos (by omega), hr, if_neg (by omega)]
    rw [show n + d + 4 = (n + d + 1) + 3 by omega, Int.tmod_eq_emod_of_nonneg hz.1, show l[i] % 65536 = l[i] by omega, big2 _ _ hz.1 hz.2]
    rw [Option.bind_some, if_pos (by rw [hx]; simp [b2]; omega), hw, show n + d + 1 + 3 = n + d + 4 by omega, two_l l h hl d (i + 1) n _ (by omega) (by rw [List.length_append, hx]; simp [b2]; omega)]
    rw [List.drop_eq_getElem_cons hlt]
    unfold twos
    rw [List.map_cons, List.flatten_cons, List.append_assoc]
theorem two_f (l : List Int) (h : ∀ z ∈ l, 0 ≤ z ∧ z < 65536) (hl : l.length < 1000) (n : Nat) : serifref02_Two.f (n + l.length + 4) l = some (twos l) := by
  unfold serifref02_Two.f
  have := two_l l h hl l.length 0 n [] (by omega) rfl
  simpa using this
/-- A group's twelve bytes. -/
def g12 (z : S56) : List Int := b4 z.f0 ++ b4 z.f1 ++ b4 z.f2
def g12s (L : List S56) : List Int := (L.map g12).flatten
theorem g12_len (z : S56) : (g12 z).length = 12 := rfl
theorem g12s_len (L : List S56) : (g12s L).length = 12 * L.length := by
  unfold g12s
  induction L with
  | nil => rfl
  | cons a l ih => rw [List.map_cons, List.flatten_cons, List.length_append, ih, List.length_cons, g12_len]; omega
def fits (z : S56) : Prop := (0 ≤ z.f0 ∧ z.f0 < 4294967296) ∧ (0 ≤ z.f1 ∧ z.f1 < 4294967296) ∧ (0 ≤ z.f2 ∧ z.f2 < 4294967296)
theorem form_l (L : List S56) (h : ∀ z ∈ L, fits z) (hl : L.length ≤ 4096) : ∀ (d i n : Nat) (x : List Int), i + d = L.length → x.length < 1000 + 12 * i → serifref05_Form12.l0 (n + 5 * d + 10) x L (L.length : Int) (i : Int) = some (x ++ g12s (L.drop i))
  | 0, i, n, x, hi, hx => by
    rw [serifref05_Form12.l0, if_neg (by omega), List.drop_of_length_le (by omega)]
    simp [g12s]
  | d + 1, i, n, x, hi, hx => by
    have hlt : i < L.length := by omega
    have hr : rd_T56 L (i : Int) = L[i] := by unfold rd_T56; rw [Int.toNat_natCast, List.getD_eq_getElem?_getD, List.getElem?_eq_getElem hlt]; rfl
    obtain ⟨⟨a0, a1⟩, ⟨b0, b1⟩, ⟨c0, c1⟩⟩ := h L[i] (List.getElem_mem hlt)
    have hw : wrap64 ((i : Int) + 1) = ((i + 1 : Nat) : Int) := by rw [w64n (by omega) (by omega)]; omega
    have w1 : wrap64 (0 + 1) = 1 := by unfold wrap64; omega
    have w2 : wrap64 (1 + 1) = 2 := by unfold wrap64; omega
    have w3 : wrap64 (2 + 1) = 3 := by unfold wrap64; omega
    rw [show n + 5 * (d + 1) + 10 = (n + 5 * d + 14) + 1 by omega, serifref05_Form12.l0, if_pos (by omega), if_pos (by omega), if_pos (by omega), hr]
    rw [show n + 5 * d + 14 = (n + 5 * d + 13) + 1 by omega, serifref05_Form12.l1, if_pos (by decide), if_pos (by decide), show pick3 0 L[i].f0 L[i].f1 L[i].f2 = L[i].f0 from rfl]
    rw [show n + 5 * d + 13 = (n + 5 * d + 8) + 5 by omega, big4 _ _ a0 a1, Option.bind_some, if_pos (by simp [b4]; omega), w1]
    rw [show n + 5 * d + 8 + 5 = (n + 5 * d + 12) + 1 by omega, serifref05_Form12.l1, if_pos (by decide), if_pos (by decide), show pick3 1 L[i].f0 L[i].f1 L[i].f2 = L[i].f1 from rfl]
    rw [show n + 5 * d + 12 = (n + 5 * d + 7) + 5 by omega, big4 _ _ b0 b1, Option.bind_some, if_pos (by simp [b4]; omega), w2]
    rw [show n + 5 * d + 7 + 5 = (n + 5 * d + 11) + 1 by omega, serifref05_Form12.l1, if_pos (by decide), if_pos (by decide), show pick3 2 L[i].f0 L[i].f1 L[i].f2 = L[i].f2 from rfl]
    rw [show n + 5 * d + 11 = (n + 5 * d + 6) + 5 by omega, big4 _ _ c0 c1, Option.bind_some, if_pos (by simp [b4]; omega), w3]
    rw [show n + 5 * d + 6 + 5 = (n + 5 * d + 10) + 1 by omega, serifref05_Form12.l1, if_neg (by decide), hw, form_l L h hl d (i + 1) n _ (by omega) (by simp [b4]; omega)]
    rw [List.drop_eq_getElem_cons hlt]
    unfold g12s
    rw [List.map_cons, List.flatten_cons]
    unfold g12
    simp only [List.append_assoc]
/-- The document's subtable. -/
def subB (f : Int) (L : List S56) : List Int := twos [f, 0] ++ b4 (16 + 12 * L.length) ++ [0, 0, 0, 0] ++ b4 L.length ++ g12s L
theorem form_f (f : Int) (L : List S56) (h : ∀ z ∈ L, fits z) (hl : L.length ≤ 4096) (hf : 0 ≤ f ∧ f < 65536) (n : Nat) : serifref05_Form12.f (n + 5 * L.length + 10) f L = some (subB f L) := by
  unfold serifref05_Form12.f
  rw [show n + 5 * L.length + 10 = (n + 5 * L.length + 4) + [f, 0].length + 4 by simp, two_f [f, 0] (by intro z hz; simp at hz; omega) (by simp), Option.bind_some]
  rw [show n + 5 * L.length + 4 + [f, 0].length + 4 = (n + 5 * L.length + 5) + 5 by simp, w64n (x := 12 * (L.length : Int)) (by omega) (by omega), w64n (by omega) (by omega), big4 _ _ (by omega) (by omega), Option.bind_some]
  rw [if_pos (by rw [twos_len]; simp [b4]), Option.bind_some, Option.bind_some, if_pos (by rw [List.length_append, twos_len]; simp [b4]), Option.bind_some]
  rw [big4 _ _ (by omega) (by omega), Option.bind_some, if_pos (by simp only [List.length_append, twos_len]; simp [b4])]
  rw [show n + 5 * L.length + 5 + 5 = n + 5 * L.length + 10 by omega]
  have := form_l L h hl L.length 0 n (twos [f, 0] ++ b4 (16 + 12 * (L.length : Int)) ++ [0, 0, 0, 0] ++ b4 (L.length : Int)) (by omega) (by simp only [List.length_append, twos_len]; simp [b4])
  simpa [subB] using this
/-- The document's table. -/
def tabB (P E : Int) (sub : List Int) : List Int := twos [0, 1, P, E] ++ [0, 0, 0, 12] ++ sub
theorem table_f (P E : Int) (sub : List Int) (hP : 0 ≤ P ∧ P < 65536) (hE : 0 ≤ E ∧ E < 65536) (hs : sub.length < 140737488000000) (n : Nat) : serifref05_Table.f (n + 8) P E sub = some (tabB P E sub) := by
  unfold serifref05_Table.f
  rw [show n + 8 = n + [0, 1, P, E].length + 4 by simp, two_f [0, 1, P, E] (by intro z hz; simp at hz; omega) (by simp), Option.bind_some, Option.bind_some]
  rw [if_pos (by rw [twos_len]; simp), Option.bind_some, if_pos (by rw [List.length_append, twos_len]; simp; omega)]
  rfl
end Go.Proofs.Ytebmfbfmdbimdaa.F
namespace Go.Proofs.Ytebmfbfmdbimdaa.F
open Go.RowKit Go.Proofs.YtebmfbfmdbimdaaW.PrintWords Go.Proofs.YtebmfbfmdbimdaaW.PrintLast Go.Proofs.YtebmfbfmdbimdaaW.PrintMore Go.Proofs.Ytebmfbfmdbimdaa.D Go.Proofs.Ytebmfbfmdbimdaa.rowQ
set_option linter.unusedVariables false
set_option linter.unusedSimpArgs false
theorem part_mid {l pre mid post : List Int} {at_ n : Int} (hl : l = pre ++ (mid ++ post)) (ha : at_ = pre.length) (hn : n = mid.length) : partL l at_ n = mid := by
  subst hl ha hn
  unfold partL
  rw [if_pos ⟨by omega, by omega, by simp; omega, by simp; omega⟩]
  rw [show ((pre.length : Int) + (mid.length : Int)).toNat = pre.length + mid.length by omega, Int.toNat_natCast, ← List.append_assoc, ← List.length_append, List.take_left', List.drop_left']
  · rfl
  · rfl
theorem num4_at {l pre post : List Int} {x at_ : Int} (hl : l = pre ++ (b4 x ++ post)) (ha : at_ = pre.length) (h0 : 0 ≤ x) (h1 : x < 4294967296) : num l at_ 4 = x := by
  unfold num
  rw [part_mid (n := 4) hl ha rfl]
  simp only [b4, numL]
  omega
theorem num2_at {l pre post : List Int} {x at_ : Int} (hl : l = pre ++ (b2 x ++ post)) (ha : at_ = pre.length) (h0 : 0 ≤ x) (h1 : x < 65536) : num l at_ 2 = x := by
  unfold num
  rw [part_mid (n := 2) hl ha rfl]
  simp only [b2, numL]
  omega
/-- The end of the group ahead. -/
def prevT (L : List S56) : Nat → Int
  | 0 => -1
  | i + 1 => (L.getD i z56).f1
/-- Groups that a table may hold. -/
structure Good (L : List S56) : Prop where
  few : L.length ≤ 4096
  fit : ∀ z ∈ L, fits z
  up : ∀ i, i < L.length → (L.getD i z56).f0 ≤ (L.getD i z56).f1 ∧ (L.getD i z56).f1 ≤ 1114111 ∧ prevT L i < (L.getD i z56).f0
theorem subB_split {f : Int} {L : List S56} {i : Nat} (hi : i < L.length) : ∃ pre post, (pre.length : Int) = 16 + 12 * i ∧ subB f L = pre ++ (b4 (L.getD i z56).f0 ++ (b4 (L.getD i z56).f1 ++ (b4 (L.getD i z56).f2 ++ post))) := by
  have e : L.getD i z56 = L[i] := by rw [List.getD_eq_getElem?_getD, List.getElem?_eq_getElem hi]; rfl
  refine ⟨twos [f, 0] ++ b4 (16 + 12 * L.length) ++ [0, 0, 0, 0] ++ b4 L.length ++ g12s (L.take i), g12s (L.drop (i + 1)), ?_, ?_⟩
  · simp only [List.length_append, twos_len, g12s_len, List.length_take]
    simp [b4]
    omega
  · have hg : g12s L = g12s (L.take i) ++ (g12 L[i] ++ g12s (L.drop (i + 1))) := by
      conv => lhs; rw [← List.take_append_drop i L, List.drop_eq_getElem_cons hi]
      unfold g12s
      rw [List.map_append, List.map_cons, List.flatten_append, List.flatten_cons]
    rw [e]
    unfold subB
    rw [hg]
    unfold g12
    simp only [List.append_assoc]
theorem sub_len (f : Int) (L : List S56) : (subB f L).length = 16 + 12 * L.length := by
  unfold subB
  simp only [List.length_append, twos_len, g12s_len]
  simp [b4]
theorem fits_at {L : List S56} (h : Good L) {i : Nat} (hi : i < L.length) : fits (L.getD i z56) := by
  rw [List.getD_eq_getElem?_getD, List.getElem?_eq_getElem hi]
  exact h.fit _ (List.getElem_mem hi)
theorem grp_sub {f : Int} {L : List S56} (h : Good L) {i : Nat} (hi : i < L.length) : num (subB f L) (16 + 12 * i) 4 = (L.getD i z56).f0 ∧ num (subB f L) (20 + 12 * i) 4 = (L.getD i z56).f1 ∧ num (subB f L) (24 + 12 * i) 4 = (L.getD i z56).f2 := by
  obtain ⟨pre, post, hp, hs⟩ := subB_split (f := f) hi
  obtain ⟨⟨a0, a1⟩, ⟨c0, c1⟩, ⟨d0, d1⟩⟩ := fits_at h hi
  refine ⟨num4_at hs hp.symm a0 a1, num4_at (pre := pre ++ b4 (L.getD i z56).f0) (post := b4 (L.getD i z56).f2 ++ post) (by rw [hs]; simp only [List.append_assoc]) (by simp [b4]; omega) c0 c1, num4_at (pre := pre ++ b4 (L.getD i z56).f0 ++ b4 (L.getD i z56).f1) (post := post) (by rw [hs]; simp only [List.append_assoc]) (by simp [b4]; omega) d0 d1⟩
theorem prev_sub {f : Int} {L : List S56} (h : Good L) {i : Nat} (hi : i ≤ L.length) : prevTo (subB f L) i = prevT L i := by
  cases i with
  | zero => rfl
  | succ i => exact (grp_sub h (by omega)).2.1
theorem byte_b4 {x z : Int} (h : z ∈ b4 x) : 0 ≤ z ∧ z ≤ 255 := by
  simp only [b4, List.mem_cons, List.not_mem_nil, or_false] at h
  omega
theorem byte_twos {l : List Int} {z : Int} (h : z ∈ twos l) : 0 ≤ z ∧ z ≤ 255 := by
  unfold twos at h
  obtain ⟨y, hy, hz⟩ := List.mem_flatten.1 h
  obtain ⟨x, _, rfl⟩ := List.mem_map.1 hy
  simp only [b2, List.mem_cons, List.not_mem_nil, or_false] at hz
  omega
theorem byte_g {L : List S56} {z : Int} (h : z ∈ g12s L) : 0 ≤ z ∧ z ≤ 255 := by
  unfold g12s at h
  obtain ⟨y, hy, hz⟩ := List.mem_flatten.1 h
  obtain ⟨x, _, rfl⟩ := List.mem_map.1 hy
  unfold g12 at hz
  rcases List.mem_append.1 hz with hz | hz
  · rcases List.mem_append.1 hz with hz | hz <;> exact byte_b4 hz
  · exact byte_b4 hz
theorem byte_tab {P E f : Int} {L : List S56} {z : Int} (h : z ∈ tabB P E (subB f L)) : 0 ≤ z ∧ z ≤ 255 := by
  unfold tabB subB at h
  simp only [List.mem_append] at h
  rcases h with (h | h) | ((((h | h) | h) | h) | h)
  · exact byte_twos h
  · simp only [List.mem_cons, List.not_mem_nil, or_false] at h; omega
  · exact byte_twos h
  · exact byte_b4 h
  · simp only [List.mem_cons, List.not_mem_nil, or_false] at h; omega
  · exact byte_b4 h
  · exact byte_g h
theorem tab_drop (P E : Int) (sub : List Int) : (tabB P E sub).drop 12 = sub := by
  unfold tabB
  exact List.drop_left' (by simp [twos_len])
theorem tab_of {P E f k : Int} {L : List S56} (h : Good L) (hP : 0 ≤ P ∧ P < 65536) (hE : 0 ≤ E ∧ E < 65536) (hff : f = 12 ∨ f = 13) (hk : idxP P E rankL = k) (h0 : 0 ≤ k) (hv : (P == 0 && E == 5) = false) : Tab (tabB P E (subB f L)) P E k f L.length := by
  have hs := sub_len f L
  have hfew := h.few
  have ht : (tabB P E (subB f L)).length = 12 + (16 + 12 * L.length) := by
    unfold tabB
    simp only [List.length_append, twos_len, hs]
    simp
  have e2 : twos [0, 1, P, E] = b2 0 ++ (b2 1 ++ (b2 P ++ b2 E)) := by simp [twos]
  refine ⟨fun z hz => byte_tab hz, by omega, by omega, ?_, ?_, ?_, ?_, ?_, hk, h0, hv, ?_, hff, ?_, hfew, ?_, ?_⟩
  · exact num2_at (pre := []) (post := b2 1 ++ (b2 P ++ (b2 E ++ ([0, 0, 0, 12] ++ subB f L)))) (by unfold tabB; rw [e2]; simp only [List.append_assoc, List.nil_append]) rfl (by decide) (by decide)
  · exact num2_at (pre := b2 0) (post := b2 P ++ (b2 E ++ ([0, 0, 0, 12] ++ subB f L))) (by unfold tabB; rw [e2]; simp only [List.append_assoc]) rfl (by decide) (by decide)
  · exact num2_at (pre := b2 0 ++ b2 1) (post := b2 E ++ ([0, 0, 0, 12] ++ subB f L)) (by unfold tabB; rw [e2]; simp only [List.append_assoc]) rfl hP.1 hP.2
  · exact num2_at (pre := b2 0 ++ (b2 1 ++ b2 P)) (post := [0, 0, 0, 12] ++ subB f L) (by unfold tabB; rw [e2]; simp only [List.append_assoc]) rfl hE.1 hE.2
  · exact num4_at (pre := twos [0, 1, P, E]) (post := subB f L) (x := 12) (by unfold tabB; rw [List.append_assoc]; rfl) (by rw [twos_len]; rfl) (by decide) (by decide)
  · rw [tab_drop]
    exact num2_at (pre := []) (post := b2 0 ++ (b4 (16 + 12 * L.length) ++ ([0, 0, 0, 0] ++ (b4 L.length ++ g12s L)))) (by unfold subB; simp [twos]) rfl (by omega) (by omega)
  · rw [tab_drop]
    exact num4_at (pre := twos [f, 0] ++ (b4 (16 + 12 * L.length) ++ [0, 0, 0, 0])) (post := g12s L) (by unfold subB; simp only [List.append_assoc]) (by simp only [List.length_append, twos_len]; simp [b4]) (by omega) (by omega)
  · intro i hi
    rw [tab_drop, (grp_sub h hi).2.1]
    exact (h.up i hi).2.1
  · intro i hi
    rw [tab_drop, (grp_sub h hi).2.1, (grp_sub h hi).1, prev_sub h (by omega)]
    exact ⟨(h.up i hi).1, (h.up i hi).2.2⟩
/-- The groups as the program keeps them. -/
def lg (f : Int) (L : List S56) : List (List Int) := L.map fun z => [z.f0, z.f1, z.f2, 13 - f]
theorem lg_len (f : Int) (L : List S56) : (lg f L).length = L.length := List.length_map ..
theorem lg_at (f : Int) (L : List S56) {i : Nat} (hi : i < L.length) : (lg f L).getD i [] = [(L.getD i z56).f0, (L.getD i z56).f1, (L.getD i z56).f2, 13 - f] := by
  unfold lg
  rw [List.getD_eq_getElem?_getD, List.getElem?_map, List.getElem?_eq_getElem hi, List.getD_eq_getElem?_getD, List.getElem?_eq_getElem hi]
  rfl
theorem grps_lg {f : Int} {L : List S56} (h : Good L) : grps (subB f L) f L.length = (lg f L).flatten := by
  unfold grps
  congr 1
  apply List.ext_getElem
  · simp [lg]
  · intro i h1 h2
    have hi : i < L.length := by simpa using h1
    obtain ⟨a, b, c⟩ := grp_sub (f := f) h hi
    have e : L.getD i z56 = L[i] := by rw [List.getD_eq_getElem?_getD, List.getElem?_eq_getElem hi]; rfl
    simp only [List.getElem_map, List.getElem_range, grp, lg]
    rw [a, b, c, e]
theorem lg4 (f : Int) (L : List S56) : ∀ z ∈ lg f L, z.length = 4 := by
  intro z hz
  obtain ⟨y, _, rfl⟩ := List.mem_map.1 hz
  rfl
theorem up_mono {L : List S56} (h : Good L) : ∀ a b, a ≤ b → b < L.length → (L.getD a z56).f1 ≤ (L.getD b z56).f1 := by
  intro a b hab hb
  obtain ⟨d, rfl⟩ : ∃ d, b = a + d := ⟨b - a, by omega⟩
  clear hab
  induction d with
  | zero => exact Int.le_refl _
  | succ d ih =>
    have h1 := ih (by omega)
    have h2 := h.up (a + d + 1) hb
    have h3 : prevT L (a + d + 1) = (L.getD (a + d) z56).f1 := rfl
    rw [show a + (d + 1) = a + d + 1 by omega]
    omega
theorem lg_mono {f : Int} {L : List S56} (h : Good L) : ∀ a b, a ≤ b → b < (lg f L).length → ((lg f L).getD a []).getD 1 0 ≤ ((lg f L).getD b []).getD 1 0 := by
  intro a b hab hb
  rw [lg_len] at hb
  rw [lg_at f L hb, lg_at f L (show a < L.length by omega)]
  exact up_mono h a b hab hb
theorem lg_ok {f : Int} {L : List S56} (h : Good L) (hff : f = 12 ∨ f = 13) : ∀ z ∈ lg f L, 0 ≤ z.getD 0 0 ∧ 0 ≤ z.getD 2 0 ∧ z.getD 2 0 ≤ 4294967296 ∧ (z.getD 3 0 = 0 ∨ z.getD 3 0 = 1) := by
  intro z hz
  obtain ⟨y, hy, rfl⟩ := List.mem_map.1 hz
  obtain ⟨⟨a0, a1⟩, _, ⟨c0, c1⟩⟩ := h.fit y hy
  have e0 : [y.f0, y.f1, y.f2, 13 - f].getD 0 0 = y.f0 := rfl
  have e2 : [y.f0, y.f1, y.f2, 13 - f].getD 2 0 = y.f2 := rfl
  have e3 : [y.f0, y.f1, y.f2, 13 - f].getD 3 0 = 13 - f := rfl
  rw [e0, e2, e3]
  omega
end Go.Proofs.Ytebmfbfmdbimdaa.F
