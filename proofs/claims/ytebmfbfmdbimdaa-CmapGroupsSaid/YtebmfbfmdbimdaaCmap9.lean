/- The bytes of the document's table with one subtable of form 12 or 13, in plain numbers. -/
import Derived.Test.YtebmfbfmdbimdaaDx1
import Derived.Test.YtebmfbfmdbimdaaCmap5
namespace Go.Proofs.Ytebmfbfmdbimdaa.F
open Go.RowKit Go.Proofs.YtebmfbfmdbimdaaW.PrintWords Go.Proofs.YtebmfbfmdbimdaaW.PrintLast Go.Proofs.YtebmfbfmdbimdaaW.PrintMore Go.Proofs.Ytebmfbfmdbimdaa.D
set_option linter.unusedVariables false
set_option linter.unusedSimpArgs false
def b4 (x : Int) : List Int := [x / 16777216 % 256, x / 65536 % 256, x / 256 % 256, x % 256]
def b2 (x : Int) : List Int := [x / 256 % 256, x % 256]
theorem w64n {x : Int} (h0 : 0 ≤ x) (h1 : x < 4611686018427387904) : wrap64 x = x := by unfold wrap64; omega
theorem big4 (n : Nat) (x : Int) (h0 : 0 ≤ x) (h1 : x < 4294967296) : serifref02_Big.f (n + 5) x 4 = some (b4 x) := by
  have e1 : wrap64 (Int.tdiv x 256) = x / 256 := by rw [Int.tdiv_eq_ediv_of_nonneg h0, w64n (by omega) (by omega)]
  have e2 : wrap64 (Int.tdiv (x / 256) 256) = x / 65536 := by rw [Int.tdiv_eq_ediv_of_nonneg (by omega), w64n (by omega) (by omega)]; omega
  have e3 : wrap64 (Int.tdiv (x / 65536) 256) = x / 16777216 := by rw [Int.tdiv_eq_ediv_of_nonneg (by omega), w64n (by omega) (by omega)]; omega
  have m0 : Int.tmod x 256 % 256 = x % 256 := by rw [Int.tmod_eq_emod_of_nonneg h0]; omega
  have m1 : Int.tmod (x / 256) 256 % 256 = x / 256 % 256 := by rw [Int.tmod_eq_emod_of_nonneg (by omega)]; omega
  have m2 : Int.tmod (x / 65536) 256 % 256 = x / 65536 % 256 := by rw [Int.tmod_eq_emod_of_nonneg (by omega)]; omega
  have m3 : Int.tmod (x / 16777216) 256 % 256 = x / 16777216 % 256 := by rw [Int.tmod_eq_emod_of_nonneg (by omega)]; omega
  have w3 : wrap64 (4 - 1) = 3 := by unfold wrap64; omega
  have w2 : wrap64 (3 - 1) = 2 := by unfold wrap64; omega
  have w1 : wrap64 (2 - 1) = 1 := by unfold wrap64; omega
  have w0 : wrap64 (1 - 1) = 0 := by unfold wrap64; omega
  have wm : wrap64 (0 - 1) = -1 := by unfold wrap64; omega
  unfold serifref02_Big.f
  rw [if_pos (by decide), if_pos (by decide), w3]
  rw [show (4 : Int).toNat = 4 from rfl, show List.replicate 4 (0 : Int) = [0, 0, 0, 0] from rfl]
  rw [serifref02_Big.l0, if_pos (by decide), if_pos (by decide), if_pos (by simp), e1, m0, w2]
  rw [serifref02_Big.l0, if_pos (by decide), if_pos (by decide), if_pos (by simp), e2, m1, w1]
  rw [serifref02_Big.l0, if_pos (by decide), if_pos (by decide), if_pos (by simp), e3, m2, w0]
  rw [serifref02_Big.l0, if_pos (by decide), if_pos (by decide), if_pos (by simp), m3, wm]
  rw [serifref02_Big.l0, if_neg (by decide)]
  rfl
theorem big2 (n : Nat) (x : Int) (h0 : 0 ≤ x) (h1 : x < 65536) : serifref02_Big.f (n + 3) x 2 = some (b2 x) := by
  have e1 : wrap64 (Int.tdiv x 256) = x / 256 := by rw [Int.tdiv_eq_ediv_of_nonneg h0, w64n (by omega) (by omega)]
  have m0 : Int.tmod x 256 % 256 = x % 256 := by rw [Int.tmod_eq_emod_of_nonneg h0]; omega
  have m1 : Int.tmod (x / 256) 256 % 256 = x / 256 % 256 := by rw [Int.tmod_eq_emod_of_nonneg (by omega)]; omega
  have w1 : wrap64 (2 - 1) = 1 := by unfold wrap64; omega
  have w0 : wrap64 (1 - 1) = 0 := by unfold wrap64; omega
  have wm : wrap64 (0 - 1) = -1 := by unfold wrap64; omega
  unfold serifref02_Big.f
  rw [if_pos (by decide), if_pos (by decide), w1]
  rw [show (2 : Int).toNat = 2 from rfl, show List.replicate 2 (0 : Int) = [0, 0] from rfl]
  rw [serifref02_Big.l0, if_pos (by decide), if_pos (by decide), if_pos (by simp), e1, m0, w0]
  rw [serifref02_Big.l0, if_pos (by decide), if_pos (by decide), if_pos (by simp), m1, wm]
  rw [serifref02_Big.l0, if_neg (by decide)]
  rfl
/-- Numbers of two bytes each. -/
def twos (l : List Int) : List Int := (l.map b2).flatten
theorem twos_len (l : List Int) : (twos l).length = 2 * l.length := by
  unfold twos
  induction l with
  | nil => rfl
  | cons a l ih => rw [List.map_cons, List.flatten_cons, List.length_append, ih, List.length_cons]; simp [b2]; omega
theorem two_l (l : List Int) (h : ∀ z ∈ l, 0 ≤ z ∧ z < 65536) (hl : l.length < 1000) : ∀ (d i n : Nat) (x : List Int), i + d = l.length → x.length = 2 * i → serifref02_Two.l0 (n + d + 4) x l (l.length : Int) (i : Int) = some (x ++ twos (l.drop i))
  | 0, i, n, x, hi, hx => by
    rw [serifref02_Two.l0, if_neg (by omega), List.drop_of_length_le (by omega)]
    simp [twos]
  | d + 1, i, n, x, hi, hx => by
    have hlt : i < l.length := by omega
    have hr : rd l (i : Int) = l[i] := by unfold rd; rw [Int.toNat_natCast, List.getD_eq_getElem?_getD, List.getElem?_eq_getElem hlt]; rfl
    have hz := h l[i] (List.getElem_mem hlt)
    have hw : wrap64 ((i : Int) + 1) = ((i + 1 : Nat) : Int) := by rw [w64n (by omega) (by omega)]; omega
    rw [show n + (d + 1) + 4 = (n + d + 4) + 1 by omega, serifref02_Two.l0, if_pos (by omega), if_pos (by omega), if_pos (by omega), hr, if_neg (by omega)]
    rw [show n + d + 4 = (n + d + 1) + 3 by omega, Int.tmod_eq_emod_of_nonneg hz.1, show l[i] % 65536 = l[i] by omega, big2 _ _ hz.1 hz.2]
    rw [Option.bind_some, if_pos (by rw [hx]; simp [b2]; omega), hw, show n + d + 1 + 3 = n + d + 4 by omega, two_l l h hl d (i + 1) n _ (by omega) (by rw [List.length_append, hx]; simp [b2]; omega)]
    rw [List.drop_eq_getElem_cons hlt]
    unfold twos
    rw [List.map_cons, List.flatten_cons, List.append_assoc]
theorem two_f (l : List Int) (h : ∀ z ∈ l, 0 ≤ z ∧ z < 65536) (hl : l.length < 1000) (n : Nat) : serifref02_Two.f (n + l.length + 4) l = some (twos l) := by
  unfold serifref02_Two.f
  have := two_l l h hl l.length 0 n [] (by omega) rfl
  simpa using this
/-- A group's twelve bytes. -/
def g12 (z : S56) : List Int := b4 z.f0 ++ b4 z.f1 ++ b4 z.f2
def g12s (L : List S56) : List Int := (L.map g12).flatten
theorem g12_len (z : S56) : (g12 z).length = 12 := rfl
theorem g12s_len (L : List S56) : (g12s L).length = 12 * L.length := by
  unfold g12s
  induction L with
  | nil => rfl
  | cons a l ih => rw [List.map_cons, List.flatten_cons, List.length_append, ih, List.length_cons, g12_len]; omega
def fits (z : S56) : Prop := (0 ≤ z.f0 ∧ z.f0 < 4294967296) ∧ (0 ≤ z.f1 ∧ z.f1 < 4294967296) ∧ (0 ≤ z.f2 ∧ z.f2 < 4294967296)
theorem form_l (L : List S56) (h : ∀ z ∈ L, fits z) (hl : L.length ≤ 4096) : ∀ (d i n : Nat) (x : List Int), i + d = L.length → x.length < 1000 + 12 * i → serifref05_Form12.l0 (n + 5 * d + 10) x L (L.length : Int) (i : Int) = some (x ++ g12s (L.drop i))
  | 0, i, n, x, hi, hx => by
    rw [serifref05_Form12.l0, if_neg (by omega), List.drop_of_length_le (by omega)]
    simp [g12s]
  | d + 1, i, n, x, hi, hx => by
    have hlt : i < L.length := by omega
    have hr : rd_T56 L (i : Int) = L[i] := by unfold rd_T56; rw [Int.toNat_natCast, List.getD_eq_getElem?_getD, List.getElem?_eq_getElem hlt]; rfl
    obtain ⟨⟨a0, a1⟩, ⟨b0, b1⟩, ⟨c0, c1⟩⟩ := h L[i] (List.getElem_mem hlt)
    have hw : wrap64 ((i : Int) + 1) = ((i + 1 : Nat) : Int) := by rw [w64n (by omega) (by omega)]; omega
    have w1 : wrap64 (0 + 1) = 1 := by unfold wrap64; omega
    have w2 : wrap64 (1 + 1) = 2 := by unfold wrap64; omega
    have w3 : wrap64 (2 + 1) = 3 := by unfold wrap64; omega
    rw [show n + 5 * (d + 1) + 10 = (n + 5 * d + 14) + 1 by omega, serifref05_Form12.l0, if_pos (by omega), if_pos (by omega), if_pos (by omega), hr]
    rw [show n + 5 * d + 14 = (n + 5 * d + 13) + 1 by omega, serifref05_Form12.l1, if_pos (by decide), if_pos (by decide), show pick3 0 L[i].f0 L[i].f1 L[i].f2 = L[i].f0 from rfl]
    rw [show n + 5 * d + 13 = (n + 5 * d + 8) + 5 by omega, big4 _ _ a0 a1, Option.bind_some, if_pos (by simp [b4]; omega), w1]
    rw [show n + 5 * d + 8 + 5 = (n + 5 * d + 12) + 1 by omega, serifref05_Form12.l1, if_pos (by decide), if_pos (by decide), show pick3 1 L[i].f0 L[i].f1 L[i].f2 = L[i].f1 from rfl]
    rw [show n + 5 * d + 12 = (n + 5 * d + 7) + 5 by omega, big4 _ _ b0 b1, Option.bind_some, if_pos (by simp [b4]; omega), w2]
    rw [show n + 5 * d + 7 + 5 = (n + 5 * d + 11) + 1 by omega, serifref05_Form12.l1, if_pos (by decide), if_pos (by decide), show pick3 2 L[i].f0 L[i].f1 L[i].f2 = L[i].f2 from rfl]
    rw [show n + 5 * d + 11 = (n + 5 * d + 6) + 5 by omega, big4 _ _ c0 c1, Option.bind_some, if_pos (by simp [b4]; omega), w3]
    rw [show n + 5 * d + 6 + 5 = (n + 5 * d + 10) + 1 by omega, serifref05_Form12.l1, if_neg (by decide), hw, form_l L h hl d (i + 1) n _ (by omega) (by simp [b4]; omega)]
    rw [List.drop_eq_getElem_cons hlt]
    unfold g12s
    rw [List.map_cons, List.flatten_cons]
    unfold g12
    simp only [List.append_assoc]
/-- The document's subtable. -/
def subB (f : Int) (L : List S56) : List Int := twos [f, 0] ++ b4 (16 + 12 * L.length) ++ [0, 0, 0, 0] ++ b4 L.length ++ g12s L
theorem form_f (f : Int) (L : List S56) (h : ∀ z ∈ L, fits z) (hl : L.length ≤ 4096) (hf : 0 ≤ f ∧ f < 65536) (n : Nat) : serifref05_Form12.f (n + 5 * L.length + 10) f L = some (subB f L) := by
  unfold serifref05_Form12.f
  rw [show n + 5 * L.length + 10 = (n + 5 * L.length + 4) + [f, 0].length + 4 by simp, two_f [f, 0] (by intro z hz; simp at hz; omega) (by simp), Option.bind_some]
  rw [show n + 5 * L.length + 4 + [f, 0].length + 4 = (n + 5 * L.length + 5) + 5 by simp, w64n (x := 12 * (L.length : Int)) (by omega) (by omega), w64n (by omega) (by omega), big4 _ _ (by omega) (by omega), Option.bind_some]
  rw [if_pos (by rw [twos_len]; simp [b4]), Option.bind_some, Option.bind_some, if_pos (by rw [List.length_append, twos_len]; simp [b4]), Option.bind_some]
  rw [big4 _ _ (by omega) (by omega), Option.bind_some, if_pos (by simp only [List.length_append, twos_len]; simp [b4])]
  rw [show n + 5 * L.length + 5 + 5 = n + 5 * L.length + 10 by omega]
  have := form_l L h hl L.length 0 n (twos [f, 0] ++ b4 (16 + 12 * (L.length : Int)) ++ [0, 0, 0, 0] ++ b4 (L.length : Int)) (by omega) (by simp only [List.length_append, twos_len]; simp [b4])
  simpa [subB] using this
/-- The document's table. -/
def tabB (P E : Int) (sub : List Int) : List Int := twos [0, 1, P, E] ++ [0, 0, 0, 12] ++ sub
theorem table_f (P E : Int) (sub : List Int) (hP : 0 ≤ P ∧ P < 65536) (hE : 0 ≤ E ∧ E < 65536) (hs : sub.length < 140737488000000) (n : Nat) : serifref05_Table.f (n + 8) P E sub = some (tabB P E sub) := by
  unfold serifref05_Table.f
  rw [show n + 8 = n + [0, 1, P, E].length + 4 by simp, two_f [0, 1, P, E] (by intro z hz; simp at hz; omega) (by simp), Option.bind_some, Option.bind_some]
  rw [if_pos (by rw [twos_len]; simp), Option.bind_some, if_pos (by rw [List.length_append, twos_len]; simp; omega)]
  rfl
end Go.Proofs.Ytebmfbfmdbimdaa.F
