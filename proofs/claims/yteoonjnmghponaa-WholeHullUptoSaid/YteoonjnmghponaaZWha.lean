/- Package slices: where SortFunc of crossings and the insertion sort of edges lie in the program (plain text of the layings, by the kit's tool). Rotations and merges of parts of a row, in plain Lean. Package raster: edges, their order, and the library's sorting steps on them: the exchange of two parts and the rotation, walked. Package slices, on a row of edges: symMergeCmpFunc, walked: two sorted parts become one. Package slices, on a row of edges: SortStableFunc by lower ends, walked: the same edges, in order. -/
import Derived.Shelf.SlSortCmp.NoneTotal
import Derived.Ground.SlsfProg
import Derived.Test.YteoonjnmghponaaProg
import Derived.Sort.LotA
import Derived.Test.YteoonjnmghponaaWMore
import Derived.Shelf.SlSortCmp.KitK
import Derived.Sort.WalkB2
import Derived.Sort.WalkB12
import Derived.Deep.LoopGhost
namespace Go.Proofs
open Go.Shelf
def Try.sortCr_ren : Go.Shelf.Ren := ⟨fun | 6 => 95 | 15 => 111 | 14 => 110 | 28 => 126 | 29 => 127 | 20 => 118 | 21 => 119 | 22 => 120 | 23 => 121 | 24 => 122 | 25 => 123 | 26 => 124 | 27 => 125 | 46 => 140 | 47 => 141 | 48 => 142 | 49 => 143 | 50 => 144 | 57 => 151 | n => n, fun | 22 => 140 | 24 => 144 | 25 => 146 | 3 => 3 | 39 => 90 | 0 => 0 | 53 => 115 | 55 => 176 | 4 => 4 | 46 => 168 | 45 => 167 | 50 => 172 | 5 => 5 | 9 => 9 | 66 => 188 | 70 => 192 | 76 => 199 | 77 => 109 | n => n, fun | n => n⟩
theorem Try.sortCr : Go.Proofs.SlLaysF0.n6 Try.prog Try.sortCr_ren := {
  mixed := by kernel_rfl
  f6 := ⟨Try.f95.name, by decide, Try.func95.trans (congrArg some (by kernel_rfl))⟩
  f14 := ⟨Try.f110.name, by decide, Try.func110.trans (congrArg some (by kernel_rfl))⟩
  f15 := Try.func111.trans (congrArg some (by kernel_rfl))
  f20 := ⟨Try.f118.name, by decide, Try.func118.trans (congrArg some (by kernel_rfl))⟩
  f21 := ⟨Try.f119.name, by decide, Try.func119.trans (congrArg some (by kernel_rfl))⟩
  f22 := ⟨Try.f120.name, by decide, Try.func120.trans (congrArg some (by kernel_rfl))⟩
  f23 := ⟨Try.f121.name, by decide, Try.func121.trans (congrArg some (by kernel_rfl))⟩
  f24 := ⟨Try.f122.name, by decide, Try.func122.trans (congrArg some (by kernel_rfl))⟩
  f25 := ⟨Try.f123.name, by decide, Try.func123.trans (congrArg some (by kernel_rfl))⟩
  f26 := ⟨Try.f124.name, by decide, Try.func124.trans (congrArg some (by kernel_rfl))⟩
  f27 := ⟨Try.f125.name, by decide, Try.func125.trans (congrArg some (by kernel_rfl))⟩
  f28 := Try.func126.trans (congrArg some (by kernel_rfl))
  f29 := Try.func127.trans (congrArg some (by kernel_rfl))
  f46 := ⟨Try.f140.name, by decide, Try.func140.trans (congrArg some (by kernel_rfl))⟩
  f47 := Try.func141.trans (congrArg some (by kernel_rfl))
  f48 := Try.func142.trans (congrArg some (by kernel_rfl))
  f49 := ⟨Try.f143.name, by decide, Try.func143.trans (congrArg some (by kernel_rfl))⟩
  f50 := ⟨Try.f144.name, by decide, Try.func144.trans (congrArg some (by kernel_rfl))⟩
  f57 := ⟨Try.f151.name, by decide, Try.func151.trans (congrArg some (by kernel_rfl))⟩
  t0 := Try.underlying0
  a0 := Try.isAgg0
  z0 := Try.sizeOf0
  v0 := Try.zeroValue0
  t3 := Try.underlying3
  a3 := Try.isAgg3
  z3 := Try.sizeOf3
  v3 := Try.zeroValue3
  t4 := Try.underlying4
  a4 := Try.isAgg4
  z4 := Try.sizeOf4
  v4 := Try.zeroValue4
  t5 := Try.underlying5
  a5 := Try.isAgg5
  z5 := Try.sizeOf5
  v5 := Try.zeroValue5
  t9 := Try.underlying9
  a9 := Try.isAgg9
  z9 := Try.sizeOf9
  v9 := Try.zeroValue9
  t22 := Try.underlying140
  a22 := Try.isAgg140
  z22 := Try.sizeOf140
  v22 := Try.zeroValue140
  t25 := Try.underlying146
  a25 := Try.isAgg146
  z25 := Try.sizeOf146
  v25 := Try.zeroValue146
  t39 := Try.underlying90
  a39 := Try.isAgg90
  z39 := Try.sizeOf90
  v39 := Try.zeroValue90
  t45 := Try.underlying167
  a45 := Try.isAgg167
  z45 := Try.sizeOf167
  v45 := Try.zeroValue167
  t46 := Try.underlying168
  a46 := Try.isAgg168
  z46 := Try.sizeOf168
  v46 := Try.zeroValue168
  t50 := Try.underlying172
  a50 := Try.isAgg172
  z50 := Try.sizeOf172
  v50 := Try.zeroValue172
  t53 := Try.underlying115
  a53 := Try.isAgg115
  z53 := Try.sizeOf115
  v53 := Try.zeroValue115
  t55 := Try.underlying176
  a55 := Try.isAgg176
  z55 := Try.sizeOf176
  v55 := Try.zeroValue176
  t66 := Try.underlying188
  a66 := Try.isAgg188
  z66 := Try.sizeOf188
  v66 := Try.zeroValue188
  t70 := Try.underlying192
  a70 := Try.isAgg192
  z70 := Try.sizeOf192
  v70 := Try.zeroValue192
  t76 := Try.underlying199
  a76 := Try.isAgg199
  z76 := Try.sizeOf199
  v76 := Try.zeroValue199
  t77 := Try.underlying109
  a77 := Try.isAgg109
  z77 := Try.sizeOf109
  v77 := Try.zeroValue109 }
def Try.insE_ren : Go.Shelf.Ren := ⟨fun | 20 => 116 | n => n, fun | 24 => 137 | 22 => 59 | 3 => 3 | 25 => 139 | 4 => 4 | 0 => 0 | n => n, fun | n => n⟩
theorem Try.insE : Go.Proofs.SlLaysF0.n20 Try.prog Try.insE_ren := {
  mixed := by kernel_rfl
  f20 := ⟨Try.f116.name, by decide, Try.func116.trans (congrArg some (by kernel_rfl))⟩
  t0 := Try.underlying0
  a0 := Try.isAgg0
  z0 := Try.sizeOf0
  v0 := Try.zeroValue0
  t3 := Try.underlying3
  a3 := Try.isAgg3
  z3 := Try.sizeOf3
  v3 := Try.zeroValue3
  t4 := Try.underlying4
  a4 := Try.isAgg4
  z4 := Try.sizeOf4
  v4 := Try.zeroValue4
  t22 := Try.underlying59
  a22 := Try.isAgg59
  z22 := Try.sizeOf59
  v22 := Try.zeroValue59
  t25 := Try.underlying139
  a25 := Try.isAgg139
  z25 := Try.sizeOf139
  v25 := Try.zeroValue139 }
end Go.Proofs
namespace Go.Proofs.Yteoonjnmghponaa.H
open Go.Sort
variable {α : Type} [Inhabited α]
set_option linter.unusedVariables false
/-- Of d's parts from x and from y on the first i elements have changed places. -/
structure Sx (lo hi : Nat) (d : Array α) (x y i : Nat) (d' : Array α) : Prop where
  size : d'.size = d.size
  perm : PermIn lo hi d d'
  get : ∀ t, d'[t]! = if x ≤ t ∧ t < x + i then d[t + (y - x)]! else if y ≤ t ∧ t < y + i then d[t - (y - x)]! else d[t]!
theorem Sx.start (lo hi : Nat) (d : Array α) (x y : Nat) : Sx lo hi d x y 0 d :=
  ⟨rfl, permIn_refl _ _ _, fun t => by rw [if_neg (by omega), if_neg (by omega)]⟩
theorem Sx.step {lo hi x y i n : Nat} {d d' : Array α} (h : Sx lo hi d x y i d') (hx : lo ≤ x) (hxy : x + n ≤ y) (hy : y + n ≤ hi) (hi' : hi ≤ d.size) (hin : i < n) : Sx lo hi d x y (i + 1) (swp d' (x + i) (y + i)) := by
  have hs := h.size
  refine ⟨by rw [size_swp]; exact hs, permIn_trans _ _ _ _ _ h.perm (swp_permIn d' lo hi (x + i) (y + i) (by omega) (by omega) (by omega) (by omega) (by omega)), fun t => ?_⟩
  rw [swp_get d' (by omega) (by omega) t, h.get (x + i), h.get (y + i), h.get t]
  rw [if_neg (by omega : ¬ (x ≤ x + i ∧ x + i < x + i)), if_neg (by omega : ¬ (y ≤ x + i ∧ x + i < y + i)), if_neg (by omega : ¬ (x ≤ y + i ∧ y + i < x + i)), if_neg (by omega : ¬ (y ≤ y + i ∧ y + i < y + i))]
  by_cases a1 : t = y + i
  · subst a1
    rw [if_pos rfl, if_neg (by omega), if_pos (by omega)]
    congr 1
    omega
  · rw [if_neg a1]
    by_cases a2 : t = x + i
    · subst a2
      rw [if_pos rfl, if_pos (by omega)]
      congr 1
      omega
    · rw [if_neg a2]
      by_cases a3 : x ≤ t ∧ t < x + i
      · rw [if_pos a3, if_pos (by omega)]
      · rw [if_neg a3, if_neg (by omega : ¬ (x ≤ t ∧ t < x + (i + 1)))]
        by_cases a4 : y ≤ t ∧ t < y + i
        · rw [if_pos a4, if_pos (by omega)]
        · rw [if_neg a4, if_neg (by omega)]
/-- d' is d in which the parts [a, m) and [m, b) have changed places. -/
structure Rot (d : Array α) (a m b : Nat) (d' : Array α) : Prop where
  perm : PermIn a b d d'
  lo : ∀ t, a ≤ t → t < a + (b - m) → d'[t]! = d[t + (m - a)]!
  hi : ∀ t, a + (b - m) ≤ t → t < b → d'[t]! = d[t - (b - m)]!
theorem Rot.size {d d' : Array α} {a m b : Nat} (h : Rot d a m b d') : d'.size = d.size := h.perm.1
theorem Rot.out {d d' : Array α} {a m b : Nat} (h : Rot d a m b d') (t : Nat) (ht : t < a ∨ b ≤ t) : d'[t]! = d[t]! := h.perm.2.1 t ht
theorem rot_none (d : Array α) (a b : Nat) : Rot d a a b d :=
  ⟨permIn_refl _ _ _, fun t _ _ => by simp, fun t h1 h2 => by omega⟩
theorem rot_none' (d : Array α) (a b : Nat) : Rot d a b b d :=
  ⟨permIn_refl _ _ _, fun t h1 h2 => by omega, fun t _ _ => by simp⟩
theorem rot_left {d d2 d' : Array α} {m i j : Nat} (h : Sx (m - i) (m + j) d (m - i) m j d2) (hji : j < i) (him : i ≤ m) (hs : m + j ≤ d.size) (k : Rot d2 (m - (i - j)) m (m + j) d') : Rot d (m - i) m (m + j) d' := by
  refine ⟨permIn_trans _ _ _ _ _ h.perm (permIn_mono _ _ _ _ _ _ (by omega) (Nat.le_refl _) (by rw [h.size]; exact hs) k.perm), fun t h1 h2 => ?_, fun t h1 h2 => ?_⟩
  · rw [k.out t (by omega), h.get t, if_pos (by omega)]
  · rcases Nat.lt_or_ge t (m - (i - j) + j) with h3 | h3
    · rw [k.lo t (by omega) (by omega), h.get, if_neg (by omega), if_pos (by omega)]
      congr 1
      omega
    · rw [k.hi t (by omega) (by omega), h.get, if_neg (by omega), if_neg (by omega)]
theorem rot_right {d d2 d' : Array α} {m i j : Nat} (h : Sx (m - i) (m + j) d (m - i) (m + j - i) i d2) (hij : i < j) (him : i ≤ m) (hs : m + j ≤ d.size) (k : Rot d2 (m - i) m (m + (j - i)) d') : Rot d (m - i) m (m + j) d' := by
  refine ⟨permIn_trans _ _ _ _ _ h.perm (permIn_mono _ _ _ _ _ _ (Nat.le_refl _) (by omega) (by rw [h.size]; exact hs) k.perm), fun t h1 h2 => ?_, fun t h1 h2 => ?_⟩
  · rcases Nat.lt_or_ge t (m - i + (j - i)) with h3 | h3
    · rw [k.lo t (by omega) (by omega), h.get, if_neg (by omega), if_neg (by omega)]
    · rcases Nat.lt_or_ge t (m + (j - i)) with h4 | h4
      · rw [k.hi t (by omega) (by omega), h.get, if_pos (by omega)]
        congr 1
        omega
      · omega
  · rw [k.out t (by omega), h.get t, if_neg (by omega), if_pos (by omega)]
    congr 1
    omega
theorem rot_eq {d d2 : Array α} {m i : Nat} (h : Sx (m - i) (m + i) d (m - i) m i d2) (him : i ≤ m) : Rot d (m - i) m (m + i) d2 := by
  refine ⟨h.perm, fun t h1 h2 => ?_, fun t h1 h2 => ?_⟩
  · rw [h.get t, if_pos (by omega)]
  · rw [h.get t, if_neg (by omega), if_pos (by omega)]
    congr 1
    omega
/-- An element goes up past the next one. -/
theorem rot_up {d d' : Array α} {a k : Nat} (h : Rot d a (a + 1) (k + 1) d') (hak : a ≤ k) (hs : k + 1 < d.size) : Rot d a (a + 1) (k + 2) (swp d' k (k + 1)) := by
  have hz := h.size
  refine ⟨permIn_trans _ _ _ _ _ (permIn_mono _ _ _ _ _ _ (Nat.le_refl _) (Nat.le_succ _) (by omega) h.perm) (swp_permIn d' a (k + 2) k (k + 1) (by omega) (by omega) (by omega) (by omega) (by omega)), fun t h1 h2 => ?_, fun t h1 h2 => ?_⟩
  · rw [swp_get d' (by omega) (by omega) t, if_neg (by omega)]
    by_cases h3 : t = k
    · subst h3
      rw [if_pos rfl, h.out _ (by omega)]
      congr 1
      omega
    · rw [if_neg h3, h.lo t h1 (by omega)]
  · have h3 : t = k + 1 := by omega
    subst h3
    rw [swp_get d' (by omega) (by omega) (k + 1), if_pos rfl, h.hi k (by omega) (by omega)]
    congr 1
    omega
/-- An element goes down past the one ahead. -/
theorem rot_down {d d' : Array α} {m k : Nat} (h : Rot d (k + 1) m (m + 1) d') (hkm : k < m) (hs : m < d.size) : Rot d k m (m + 1) (swp d' (k + 1) k) := by
  have hz := h.size
  refine ⟨permIn_trans _ _ _ _ _ (permIn_mono _ _ _ _ _ _ (Nat.le_succ _) (Nat.le_refl _) (by omega) h.perm) (swp_permIn d' k (m + 1) (k + 1) k (by omega) (by omega) (by omega) (by omega) (by omega)), fun t h1 h2 => ?_, fun t h1 h2 => ?_⟩
  · have h3 : t = k := by omega
    subst h3
    rw [swp_get d' (by omega) (by omega) t, if_pos rfl, h.lo (t + 1) (by omega) (by omega)]
    congr 1
    omega
  · rw [swp_get d' (by omega) (by omega) t, if_neg (by omega)]
    by_cases h3 : t = k + 1
    · subst h3
      rw [if_pos rfl, h.out k (by omega)]
      congr 1
      omega
    · rw [if_neg h3, h.hi t (by omega) h2]
variable {lt : α → α → Bool}
theorem sorted_one (a : Nat) (d : Array α) : SortedIn lt a (a + 1) d := fun i j h1 h2 h3 => by omega
theorem SortedIn.sub {a b a' b' : Nat} {d : Array α} (h : SortedIn lt a b d) (ha : a ≤ a') (hb : b' ≤ b) : SortedIn lt a' b' d := fun i j h1 h2 h3 => h i j (by omega) h2 (by omega)
theorem SortedIn.congr {a b : Nat} {d d' : Array α} (h : SortedIn lt a b d) (e : ∀ t, a ≤ t → t < b → d'[t]! = d[t]!) : SortedIn lt a b d' := fun i j h1 h2 h3 => by
  rw [e i h1 (by omega), e j (by omega) h3]
  exact h i j h1 h2 h3
/-- The two halves behind the rotation. -/
theorem cross {d d1 : Array α} {a st m mid en b : Nat} (h1 : a ≤ st) (h2 : st ≤ m) (h3 : m ≤ en) (h4 : en ≤ b) (hm : mid = st + (en - m)) (s1 : SortedIn lt a m d) (s2 : SortedIn lt m b d) (hR : Rot d st m en d1)
    (X1 : ∀ u v, a ≤ u → u < st → en ≤ v → v < b → lt d[v]! d[u]! = false) (X2 : ∀ u v, st ≤ u → u < m → m ≤ v → v < en → lt d[u]! d[v]! = false) :
    SortedIn lt a st d1 ∧ SortedIn lt st mid d1 ∧ SortedIn lt mid en d1 ∧ SortedIn lt en b d1 ∧ ∀ s t, a ≤ s → s < mid → mid ≤ t → t < b → lt d1[t]! d1[s]! = false := by
  have l1 : ∀ t, st ≤ t → t < mid → d1[t]! = d[t + (m - st)]! := fun t a1 a2 => hR.lo t a1 (by omega)
  have l2 : ∀ t, mid ≤ t → t < en → d1[t]! = d[t - (en - m)]! := fun t a1 a2 => hR.hi t (by omega) a2
  have l3 : ∀ t, t < st ∨ en ≤ t → d1[t]! = d[t]! := fun t a1 => hR.out t a1
  refine ⟨fun i j a1 a2 a3 => ?_, fun i j a1 a2 a3 => ?_, fun i j a1 a2 a3 => ?_, fun i j a1 a2 a3 => ?_, fun s t a1 a2 a3 a4 => ?_⟩
  · rw [l3 i (by omega), l3 j (by omega)]
    exact s1 i j (by omega) a2 (by omega)
  · rw [l1 i (by omega) (by omega), l1 j (by omega) (by omega)]
    exact s2 _ _ (by omega) (by omega) (by omega)
  · rw [l2 i (by omega) (by omega), l2 j (by omega) (by omega)]
    exact s1 _ _ (by omega) (by omega) (by omega)
  · rw [l3 i (by omega), l3 j (by omega)]
    exact s2 i j (by omega) a2 (by omega)
  · rcases Nat.lt_or_ge s st with c1 | c1
    · rw [l3 s (by omega)]
      rcases Nat.lt_or_ge t en with c2 | c2
      · rw [l2 t a3 c2]
        exact s1 _ _ a1 (by omega) (by omega)
      · rw [l3 t (by omega)]
        exact X1 s t a1 c1 c2 a4
    · rw [l1 s c1 a2]
      rcases Nat.lt_or_ge t en with c2 | c2
      · rw [l2 t a3 c2]
        exact X2 _ _ (by omega) (by omega) (by omega) (by omega)
      · rw [l3 t (by omega)]
        exact s2 _ _ (by omega) (by omega) a4
/-- Both halves sorted, and nothing of the left one above the right one: the whole is sorted. -/
theorem halves {d1 d3 : Array α} {a mid b : Nat} (hb : b ≤ d1.size) (ham : a ≤ mid) (hmb : mid ≤ b) (hX : ∀ s t, a ≤ s → s < mid → mid ≤ t → t < b → lt d1[t]! d1[s]! = false) {d2 : Array α} (p1 : PermIn a mid d1 d2) (s1 : SortedIn lt a mid d2) (p2 : PermIn mid b d2 d3) (s2 : SortedIn lt mid b d3) :
    PermIn a b d1 d3 ∧ SortedIn lt a b d3 := by
  have z1 := p1.1
  have z2 := p2.1
  refine ⟨permIn_trans _ _ _ _ _ (permIn_mono _ _ _ _ _ _ (Nat.le_refl _) hmb hb p1) (permIn_mono _ _ _ _ _ _ ham (Nat.le_refl _) (by omega) p2), fun i j a1 a2 a3 => ?_⟩
  have Y : ∀ s t, a ≤ s → s < mid → mid ≤ t → t < b → lt d2[t]! d2[s]! = false := fun s t b1 b2 b3 b4 => by
    rw [p1.2.1 t (by omega)]
    exact permIn_all d1 d2 a mid (fun x => lt d1[t]! x = false) (by omega) p1 (fun s c1 c2 => hX s t c1 c2 b3 b4) s b1 b2
  rcases Nat.lt_or_ge j mid with c | c
  · rw [p2.2.1 i (by omega), p2.2.1 j (by omega)]
    exact s1 i j a1 a2 c
  · rcases Nat.lt_or_ge i mid with c' | c'
    · rw [p2.2.1 i (by omega)]
      exact permIn_all d2 d3 mid b (fun x => lt x d2[i]! = false) (by omega) p2 (fun t c1 c2 => Y i t a1 c' c1 c2) j c a3
    · exact s2 i j c' a2 a3
/-- One element is laid into a sorted part behind it. -/
theorem into_right {d d' : Array α} {a b i : Nat} (hS : SWO lt) (h1 : a + 1 ≤ i) (h2 : i ≤ b) (hb : b ≤ d.size) (s2 : SortedIn lt (a + 1) b d) (L : ∀ t, a + 1 ≤ t → t < i → lt d[t]! d[a]! = true) (G : ∀ t, i ≤ t → t < b → lt d[t]! d[a]! = false) (hR : Rot d a (a + 1) i d') :
    PermIn a b d d' ∧ SortedIn lt a b d' := by
  have h := cross (lt := lt) (d := d) (d1 := d') (a := a) (st := a) (m := a + 1) (mid := i - 1) (en := i) (b := b) (Nat.le_refl _) (by omega) h1 h2 (by omega) (sorted_one a d) s2 hR (fun u v a1 a2 => by omega) (fun u v a1 a2 a3 a4 => by
    have hu : u = a := by omega
    subst hu
    have := L v a3 a4
    cases e : lt d[u]! d[v]! with
    | false => rfl
    | true => have := hS.trans _ _ _ this e; rw [hS.irrefl] at this; cases this)
  obtain ⟨_, k2, k3, k4, kX⟩ := h
  have hsz := hR.size
  refine ⟨permIn_mono _ _ _ _ _ _ (Nat.le_refl _) h2 hb hR.perm, ?_⟩
  have : SortedIn lt (i - 1) b d' := fun u v a1 a2 a3 => by
    rcases Nat.lt_or_ge u i with c | c
    · have hu : u = i - 1 := by omega
      subst hu
      rw [hR.hi (i - 1) (by omega) (by omega), hR.out v (by omega), show i - 1 - (i - (a + 1)) = a by omega]
      exact G v (by omega) a3
    · exact k4 u v c a2 a3
  exact (halves (by omega) (by omega) (by omega) kX (permIn_refl _ _ _) k2 (permIn_refl _ _ _) this).2
/-- .. ahead of it. -/
theorem into_left {d d' : Array α} {a m i : Nat} (hS : SWO lt) (h1 : a ≤ i) (h2 : i ≤ m) (hb : m < d.size) (s1 : SortedIn lt a m d) (L : ∀ t, a ≤ t → t < i → lt d[m]! d[t]! = false) (G : ∀ t, i ≤ t → t < m → lt d[m]! d[t]! = true) (hR : Rot d i m (m + 1) d') :
    PermIn a (m + 1) d d' ∧ SortedIn lt a (m + 1) d' := by
  have h := cross (lt := lt) (d := d) (d1 := d') (a := a) (st := i) (m := m) (mid := i + 1) (en := m + 1) (b := m + 1) h1 h2 (by omega) (Nat.le_refl _) (by omega) s1 (sorted_one m d) hR (fun u v a1 a2 => by omega) (fun u v a1 a2 a3 a4 => by
    have hv : v = m := by omega
    subst hv
    have := G u a1 a2
    cases e : lt d[u]! d[v]! with
    | false => rfl
    | true => have := hS.trans _ _ _ this e; rw [hS.irrefl] at this; cases this)
  obtain ⟨k1, _, k3, _, kX⟩ := h
  have hsz := hR.size
  refine ⟨permIn_mono _ _ _ _ _ _ h1 (Nat.le_refl _) (by omega) hR.perm, ?_⟩
  have : SortedIn lt a (i + 1) d' := fun u v a1 a2 a3 => by
    rcases Nat.lt_or_ge v i with c | c
    · exact k1 u v a1 a2 c
    · have hv : v = i := by omega
      subst hv
      rw [hR.lo v (by omega) (by omega), hR.out u (by omega), show v + (m - v) = m by omega]
      exact L u a1 a2
  exact (halves (by omega) (by omega) (by omega) kX (permIn_refl _ _ _) this (permIn_refl _ _ _) k3).2
/-- What the search tells of the two crossings. -/
theorem search_ok {d : Array α} {a m b st st0 r0 n : Nat} (hS : SWO lt) (s1 : SortedIn lt a m d) (s2 : SortedIn lt m b d) (ha : a ≤ st0) (h0 : st0 ≤ st) (h1 : st ≤ r0) (hr : r0 ≤ m) (hn : m + r0 ≤ n) (hnb : n ≤ b + st0)
    (L : ∀ c, st0 ≤ c → c < st → lt d[n - 1 - c]! d[c]! = false) (G : ∀ c, st ≤ c → c < r0 → lt d[n - 1 - c]! d[c]! = true) (e0 : st0 = a ∨ n - st0 = b) (e1 : r0 = m ∨ n - r0 = m) :
    (∀ u v, a ≤ u → u < st → n - st ≤ v → v < b → lt d[v]! d[u]! = false) ∧ (∀ u v, st ≤ u → u < m → m ≤ v → v < n - st → lt d[u]! d[v]! = false) := by
  have le_of : ∀ lo hi (s : SortedIn lt lo hi d) x y, lo ≤ x → x ≤ y → y < hi → lt d[y]! d[x]! = false := fun lo hi s x y b1 b2 b3 => by
    rcases Nat.lt_or_ge x y with c | c
    · exact s x y b1 c b3
    · have : x = y := by omega
      subst this
      exact hS.irrefl _
  constructor
  · intro u v a1 a2 a3 a4
    have c1 : st0 < st := by
      rcases e0 with e | e <;> omega
    have k := L (st - 1) (by omega) (by omega)
    rw [show n - 1 - (st - 1) = n - st by omega] at k
    exact hS.ntrans _ _ _ (hS.ntrans _ _ _ (le_of m b s2 (n - st) v (by omega) a3 a4) k) (le_of a m s1 u (st - 1) a1 (by omega) (by omega))
  · intro u v a1 a2 a3 a4
    have c1 : st < r0 := by
      rcases e1 with e | e <;> omega
    have k := G st (Nat.le_refl _) c1
    have k1 : lt d[st]! d[n - 1 - st]! = false := by
      cases e : lt d[st]! d[n - 1 - st]! with
      | false => rfl
      | true => have := hS.trans _ _ _ k e; rw [hS.irrefl] at this; cases this
    exact hS.ntrans _ _ _ (hS.ntrans _ _ _ (le_of a m s1 st u (by omega) a1 a2) k1) (le_of m b s2 v (n - 1 - st) a3 (by omega) (by omega))
end Go.Proofs.Yteoonjnmghponaa.H
namespace Go.Proofs.Yteoonjnmghponaa.H
open Go.Shelf Go.RowKit Go.Lib Go.Sort Go.Proofs.YteoonjnmghponaaW.PrintWords Go.Proofs.YteoonjnmghponaaW.PrintLast Go.Proofs.YteoonjnmghponaaW.PrintMore
set_option linter.unusedVariables false
set_option linter.unusedSimpArgs false
/-- What is asked of a program in which the library's steps on a row of edges lie: their bodies, and their types; an element has k cells. -/
structure LE (P : Program) (k : Nat) : Prop where
  mixed : P.follows .mixedOrders = true
  fsw : P.funcs[150]? = some Try.f150
  fro : P.funcs[139]? = some Try.f139
  fsy : P.funcs[117]? = some Try.f117
  t0 : P.underlying 0 = some (TypeDesc.tuple #[])
  a0 : ∀ w, (isAgg 0).run P w = .ok false w
  z0 : ∀ w, (Go.sizeOf 0).run P w = .ok 1 w
  v0 : ∀ w, (zeroValue 0).run P w = .ok (Value.tuple #[]) w
  t3 : P.underlying 3 = some (TypeDesc.int IntKind.i64)
  a3 : ∀ w, (isAgg 3).run P w = .ok false w
  z3 : ∀ w, (Go.sizeOf 3).run P w = .ok 1 w
  v3 : ∀ w, (zeroValue 3).run P w = .ok (Value.int IntKind.i64 0) w
  t4 : P.underlying 4 = some (TypeDesc.bool)
  a4 : ∀ w, (isAgg 4).run P w = .ok false w
  z4 : ∀ w, (Go.sizeOf 4).run P w = .ok 1 w
  v4 : ∀ w, (zeroValue 4).run P w = .ok (Value.bool false) w
  tu : P.underlying 90 = some (TypeDesc.int IntKind.u64)
  au : ∀ w, (isAgg 90).run P w = .ok false w
  zu : ∀ w, (Go.sizeOf 90).run P w = .ok 1 w
  vu : ∀ w, (zeroValue 90).run P w = .ok (Value.int IntKind.u64 0) w
  ts : P.underlying 59 = some (TypeDesc.slice 137)
  aS : ∀ w, (isAgg 59).run P w = .ok false w
  zs : ∀ w, (Go.sizeOf 59).run P w = .ok 1 w
  vs : ∀ w, (zeroValue 59).run P w = .ok (Value.slice none 0 0) w
  tf : P.underlying 139 = some (TypeDesc.func #[137, 137] #[3] false)
  af : ∀ w, (isAgg 139).run P w = .ok false w
  zf : ∀ w, (Go.sizeOf 139).run P w = .ok 1 w
  vf : ∀ w, (zeroValue 139).run P w = .ok (Value.nilFunc) w
  aE : ∀ w, (isAgg 137).run P w = .ok true w
  zE : ∀ w, (Go.sizeOf 137).run P w = .ok k w
theorem lays : LE Try.prog 5 :=
  ⟨by kernel_rfl, Try.func150, Try.func139, Try.func117,
   Try.underlying0, Try.isAgg0, Try.sizeOf0, Try.zeroValue0, Try.underlying3, Try.isAgg3, Try.sizeOf3, Try.zeroValue3, Try.underlying4, Try.isAgg4, Try.sizeOf4, Try.zeroValue4,
   Try.underlying90, Try.isAgg90, Try.sizeOf90, Try.zeroValue90, Try.underlying59, Try.isAgg59, Try.sizeOf59, Try.zeroValue59, Try.underlying139, Try.isAgg139, Try.sizeOf139, Try.zeroValue139, Try.isAgg137, Try.sizeOf137⟩
variable {P : Program} {k : Nat} {α : Type} [Inhabited α] {enc : α → List Value}
set_option maxHeartbeats 4000000 in
set_option maxRecDepth 1000000 in
theorem swapRange_any (L : LE P k) {w0 w : World} {blk off cap sz : Nat} {d0 d : Array α} (R : RowK enc k w0 blk off d0) (hs0 : d0.size = sz) (hz : d.size = sz) (hsz : sz < 4611686018427387904) (S : SWK enc k w0 blk off d w) (fv : Value) (a b n : Nat) (h1 : a + n ≤ b) (h2 : b + n ≤ sz) :
    Calls P 150 #[.slice (some ⟨blk, off, none⟩) sz cap, .int .i64 a, .int .i64 b, .int .i64 n, fv] w fun e w' => e = .returned (.tuple #[]) ∧ ∃ d', SWK enc k w0 blk off d' w' ∧ Sx a (b + n) d a b n d' := by
  have S0 : Aside _ := S
  have HX0 : Aside _ := Sx.start a (b + n) d a b
  have mixed := L.mixed; have t0 := L.t0; have a0 := L.a0; have z0 := L.z0; have v0 := L.v0; have t3 := L.t3; have a3 := L.a3; have z3 := L.z3; have v3 := L.v3; have t4 := L.t4; have a4 := L.a4; have z4 := L.z4; have v4 := L.v4; have ts := L.ts; have aS := L.aS; have zs := L.zs; have vs := L.vs; have tf := L.tf; have af := L.af; have zf := L.zf; have vf := L.vf; have aE := L.aE; have zE := L.zE
  clear S
  go_enter L.fsw, Try.ntmps150
  go_wp2
  go_loopg [10] n (fun kx s10 wr => ∃ (i : Nat) (dk : Array α), s10 = .int .i64 i ∧ i ≤ n ∧ n - i ≤ kx ∧ Aside (SWK enc k w0 blk off dk wr) ∧ Aside (Sx a (b + n) d a b i dk))
  case atStart => exact ⟨0, d, rfl, by omega, by omega, S0, HX0⟩
  case round =>
    clear S0 HX0
    obtain ⟨i, dk, rfl, hin, hkx, S1, HX⟩ := hrel
    have hds : dk.size = sz := HX.out.size.trans hz
    by_cases hlt : i < n
    · have hltz : (i : Int) < (n : Int) := by omega
      go_wp2_with fail
      have ra : IntKind.i64.wrap ((a : Int) + (i : Int)) = ((a + i : Nat) : Int) := by rw [IntKind.wrap_i64]; omega
      have rb : IntKind.i64.wrap ((b : Int) + (i : Int)) = ((b + i : Nat) : Int) := by rw [IntKind.wrap_i64]; omega
      have ea : (((a + i : Nat) : Int)).toNat = a + i := by omega
      have pa : (0 : Int) ≤ ((a + i : Nat) : Int) := by omega
      have ba : ((a + i : Nat) : Int) < (sz : Int) := by omega
      have eb : (((b + i : Nat) : Int)).toNat = b + i := by omega
      have pb : (0 : Int) ≤ ((b + i : Nat) : Int) := by omega
      have bb : ((b + i : Nat) : Int) < (sz : Int) := by omega
      have S2 := S1.out.swapped R (a + i) (b + i) (by omega) (by omega)
      have HX2 : Aside _ := HX.out.step (n := n) (Nat.le_refl _) h1 (Nat.le_refl _) (by omega) hlt
      have la := S1.out.ld1 R (by omega) P (a + i) (by omega)
      have lb := S1.out.ld1 R (by omega) P (b + i) (by omega)
      have sa := S1.out.st1 R (by omega) P (a + i) (by omega) dk[b + i]!
      have sb := S1.out.st2 R (by omega) P (a + i) (b + i) (by omega) (by omega) dk[b + i]! dk[a + i]!
      have na : (enc dk[a + i]!).length = k := R.hk _
      have nb : (enc dk[b + i]!).length = k := R.hk _
      generalize enc dk[a + i]! = cI at S2 la sb na
      generalize enc dk[b + i]! = cJ at S2 lb sa sb nb
      have S3 : Aside _ := S2
      clear S1 S2 HX
      generalize a + i = ai at *
      generalize b + i = bi at *
      go_wp2_with fail
      go_big_region_o
      clear la lb sa sb
      generalize (wr.drew.setCells blk (off + ai * k) cJ).setCells blk (off + bi * k) cI = w2 at S3 ⊢
      go_wp2
      go_roundg (n - (i + 1))
      case measure => omega
      case rel => exact ⟨i + 1, _, by go_num, by omega, Nat.le_refl _, S3, HX2⟩
    · have hi : i = n := by omega
      subst hi
      go_wp2
      go_end0
      exact ⟨rfl, dk, S1.out, HX.out⟩
set_option maxHeartbeats 4000000 in
set_option maxRecDepth 1000000 in
theorem rotate_any (L : LE P k) {w0 w : World} {blk off cap sz : Nat} {d0 d : Array α} (R : RowK enc k w0 blk off d0) (hs0 : d0.size = sz) (hz : d.size = sz) (hsz : sz < 4611686018427387904) (S : SWK enc k w0 blk off d w) (fv : Value) (a m b : Nat) (h1 : a < m) (h2 : m < b) (h3 : b ≤ sz) :
    Calls P 139 #[.slice (some ⟨blk, off, none⟩) sz cap, .int .i64 a, .int .i64 m, .int .i64 b, fv] w fun e w' => e = .returned (.tuple #[]) ∧ ∃ d', SWK enc k w0 blk off d' w' ∧ Rot d a m b d' := by
  have mixed := L.mixed; have t0 := L.t0; have a0 := L.a0; have z0 := L.z0; have v0 := L.v0; have t3 := L.t3; have a3 := L.a3; have z3 := L.z3; have v3 := L.v3; have t4 := L.t4; have a4 := L.a4; have z4 := L.z4; have v4 := L.v4; have ts := L.ts; have aS := L.aS; have zs := L.zs; have vs := L.vs; have tf := L.tf; have af := L.af; have zf := L.zf; have vf := L.vf; have aE := L.aE; have zE := L.zE
  have eS : ∀ args w, (callFunc 150 args).run P w = .ok (.enter 150 args) w := enters_of L.fsw (by kernel_rfl) rfl
  have S0 : Aside _ := S
  have HX0 : Aside0 (∀ d', Rot d (m - (m - a)) m (m + (b - m)) d' → Rot d a m b d') := ⟨fun d' h => by rw [show m - (m - a) = a by omega, show m + (b - m) = b by omega] at h; exact h⟩
  have e1 : IntKind.i64.wrap ((m : Int) - (a : Int)) = ((m - a : Nat) : Int) := by rw [IntKind.wrap_i64]; omega
  have e2 : IntKind.i64.wrap ((b : Int) - (m : Int)) = ((b - m : Nat) : Int) := by rw [IntKind.wrap_i64]; omega
  clear S
  go_enter L.fro, Try.ntmps139
  go_wp2
  go_loopg [10, 11] (b - a) (fun kx s10 s11 wr => ∃ (i j : Nat) (dk : Array α), s10 = .int .i64 i ∧ s11 = .int .i64 j ∧ 0 < i ∧ 0 < j ∧ i ≤ m - a ∧ j ≤ b - m ∧ i + j ≤ kx ∧ dk.size = sz ∧ Aside (SWK enc k w0 blk off dk wr) ∧ Aside0 (∀ d', Rot dk (m - i) m (m + j) d' → Rot d a m b d'))
  case atStart => exact ⟨m - a, b - m, d, rfl, rfl, by omega, by omega, Nat.le_refl _, Nat.le_refl _, by omega, hz, S0, HX0⟩
  case round =>
    clear S0 HX0
    obtain ⟨i, j, dk, rfl, rfl, hi0, hj0, him, hjb, hkx, hdk, S1, HX⟩ := hrel
    have e3 : IntKind.i64.wrap ((m : Int) - (i : Int)) = ((m - i : Nat) : Int) := by rw [IntKind.wrap_i64]; omega
    by_cases hij : i = j
    · have d1 : decide ((i : Int) = (j : Int)) = true := decide_eq_true (by omega)
      subst hij
      have hcall := swapRange_any L (cap := cap) R hs0 hdk hsz S1.out fv (m - i) m i (by omega) (by omega)
      clear S1
      go_wp2_with (go_at_fn 150; refine hcall.mono ?_; rintro e w1 ⟨rfl, d2, S2, HS⟩)
      go_end0
      exact ⟨rfl, d2, S2, HX.out _ (rot_eq HS (by omega))⟩
    · have d1 : decide ((i : Int) = (j : Int)) = false := decide_eq_false (by omega)
      by_cases hlt : j < i
      · have d2 : decide ((j : Int) < (i : Int)) = true := decide_eq_true (by omega)
        have e4 : IntKind.i64.wrap ((i : Int) - (j : Int)) = ((i - j : Nat) : Int) := by rw [IntKind.wrap_i64]; omega
        have hcall := swapRange_any L (cap := cap) R hs0 hdk hsz S1.out fv (m - i) m j (by omega) (by omega)
        clear S1
        go_wp2_with (go_at_fn 150; refine hcall.mono ?_; rintro e w1 ⟨rfl, d2, S2, HS⟩)
        go_roundg (i - j + j)
        case measure => omega
        case rel => exact ⟨i - j, j, d2, rfl, rfl, by omega, hj0, by omega, hjb, Nat.le_refl _, HS.size.trans hdk, S2, ⟨fun d' h => HX.out _ (rot_left HS hlt (by omega) (by omega) h)⟩⟩
      · have d2 : decide ((j : Int) < (i : Int)) = false := decide_eq_false (by omega)
        have e4 : IntKind.i64.wrap ((j : Int) - (i : Int)) = ((j - i : Nat) : Int) := by rw [IntKind.wrap_i64]; omega
        have e5 : IntKind.i64.wrap ((m : Int) + (j : Int) - (i : Int)) = ((m + j - i : Nat) : Int) := by rw [IntKind.wrap_i64]; omega
        have hcall := swapRange_any L (cap := cap) R hs0 hdk hsz S1.out fv (m - i) (m + j - i) i (by omega) (by omega)
        rw [show m + j - i + i = m + j by omega] at hcall
        clear S1
        go_wp2_with (go_at_fn 150; refine hcall.mono ?_; rintro e w1 ⟨rfl, d2, S2, HS⟩)
        go_roundg (i + (j - i))
        case measure => omega
        case rel => exact ⟨i, j - i, d2, rfl, rfl, hi0, by omega, him, by omega, Nat.le_refl _, HS.size.trans hdk, S2, ⟨fun d' h => HX.out _ (rot_right HS (by omega) (by omega) (by omega) h)⟩⟩
end Go.Proofs.Yteoonjnmghponaa.H
namespace Go.Proofs.Yteoonjnmghponaa.H
open Go.Shelf Go.RowKit Go.Lib Go.Sort Go.Proofs.YteoonjnmghponaaW.PrintWords Go.Proofs.YteoonjnmghponaaW.PrintLast Go.Proofs.YteoonjnmghponaaW.PrintMore
set_option linter.unusedVariables false
set_option linter.unusedSimpArgs false
variable {P : Program} {k : Nat} {α : Type} [Inhabited α] {enc : α → List Value}
/-- What is known of the two halves, behind the search. -/
structure MF (lt : α → α → Bool) (sz : Nat) (d : Array α) (a st m mid en b : Nat) : Prop where
  f1 : ∀ d1, Rot d st m en d1 → d1.size = sz ∧ SortedIn lt a st d1 ∧ SortedIn lt st mid d1
  f2 : ∀ d1 d2, Rot d st m en d1 → PermIn a mid d1 d2 → d2.size = sz ∧ SortedIn lt mid en d2 ∧ SortedIn lt en b d2
  n1 : ¬ (st < m ∧ m < en) → Rot d st m en d
  n2 : ∀ d1, Rot d st m en d1 → ¬ (a < st ∧ st < mid) → SortedIn lt a mid d1
  n3 : ∀ d1 d2, Rot d st m en d1 → PermIn a mid d1 d2 → ¬ (mid < en ∧ en < b) → SortedIn lt mid b d2
  fin : ∀ d1 d2 d3, Rot d st m en d1 → PermIn a mid d1 d2 → SortedIn lt a mid d2 → PermIn mid b d2 d3 → SortedIn lt mid b d3 → PermIn a b d d3 ∧ SortedIn lt a b d3
theorem merge_facts {lt : α → α → Bool} {sz : Nat} {d : Array α} {a st m mid en b : Nat} (h1 : a ≤ st) (h2 : st ≤ m) (h3 : m ≤ en) (h4 : en ≤ b) (hm : mid = st + (en - m)) (hz : d.size = sz) (hb : b ≤ sz) (s1 : SortedIn lt a m d) (s2 : SortedIn lt m b d)
    (X1 : ∀ u v, a ≤ u → u < st → en ≤ v → v < b → lt d[v]! d[u]! = false) (X2 : ∀ u v, st ≤ u → u < m → m ≤ v → v < en → lt d[u]! d[v]! = false) : MF lt sz d a st m mid en b := by
  have hc : ∀ d1, Rot d st m en d1 → _ := fun d1 hR => cross h1 h2 h3 h4 hm s1 s2 hR X1 X2
  have f2 : ∀ d1 d2, Rot d st m en d1 → PermIn a mid d1 d2 → d2.size = sz ∧ SortedIn lt mid en d2 ∧ SortedIn lt en b d2 := fun d1 d2 hR hP =>
    ⟨hP.1.trans (hR.size.trans hz), fun i j b1 b2 b3 => by
      rw [hP.2.1 i (by omega), hP.2.1 j (by omega)]
      exact (hc d1 hR).2.2.1 i j b1 b2 b3, fun i j b1 b2 b3 => by
      rw [hP.2.1 i (by omega), hP.2.1 j (by omega)]
      exact (hc d1 hR).2.2.2.1 i j b1 b2 b3⟩
  refine ⟨fun d1 hR => ⟨hR.size.trans hz, (hc d1 hR).1, (hc d1 hR).2.1⟩, f2, fun h => ?_, fun d1 hR h => ?_, fun d1 d2 hR hP h => ?_, fun d1 d2 d3 hR hP hS hP3 hS3 => ?_⟩
  · rcases Nat.lt_or_ge st m with c | c
    · have e : en = m := by omega
      rw [e]
      exact rot_none' d st m
    · have e : st = m := by omega
      rw [e]
      exact rot_none d m en
  · rcases Nat.lt_or_ge a st with c | c
    · have e : mid = st := by omega
      rw [e]
      exact (hc d1 hR).1
    · have e : st = a := by omega
      have := (hc d1 hR).2.1
      rw [e] at this
      exact this
  · rcases Nat.lt_or_ge mid en with c | c
    · have e : en = b := by omega
      have := (f2 d1 d2 hR hP).2.1
      rw [e] at this
      exact this
    · have e : en = mid := by omega
      have := (f2 d1 d2 hR hP).2.2
      rw [e] at this
      exact this
  · have hR1 := hR.size
    have h := halves (lt := lt) (a := a) (mid := mid) (b := b) (d1 := d1) (by omega) (by omega) (by omega) (hc d1 hR).2.2.2.2 hP hS hP3 hS3
    exact ⟨permIn_trans _ _ _ _ _ (permIn_mono _ _ _ _ _ _ h1 h4 (by omega) hR.perm) h.1, h.2⟩
/-- What the walk of symMergeCmpFunc is told, once. -/
abbrev SymPost (enc : α → List Value) (k : Nat) (w0 : World) (blk off : Nat) (cf : α → α → Int) (a b : Nat) (d : Array α) (e : Ending) (w' : World) : Prop := e = .returned (.tuple #[]) ∧ ∃ d', SWK enc k w0 blk off d' w' ∧ PermIn a b d d' ∧ SortedIn (ltOf cf) a b d'
set_option maxHeartbeats 4000000 in
set_option maxRecDepth 1000000 in
theorem symMerge_one (L : LE P k) {w0 : World} {blk off cap sz : Nat} {d0 : Array α} (R : RowK enc k w0 blk off d0) (hs0 : d0.size = sz) (hsz : sz < 4611686018427387904) (cf : α → α → Int) (hO : SWO (ltOf cf)) (g : Nat) (cb : Array Value) (eg : ∀ args w, (callFunc g args).run P w = .ok (.enter g args) w) (hcmp : CmpLays P g cb enc k cf blk off sz w0) {a m b : Nat} {d : Array α} {w : World} (hz : d.size = sz) (S : SWK enc k w0 blk off d w) (h1 : a < m) (h2 : m < b) (h3 : b ≤ sz) (s1 : SortedIn (ltOf cf) a m d) (s2 : SortedIn (ltOf cf) m b d) (hone : m = a + 1) :
    Calls P 117 #[.slice (some ⟨blk, off, none⟩) sz cap, .int .i64 a, .int .i64 m, .int .i64 b, .func (.func g) #[] cb] w (SymPost enc k w0 blk off cf a b d) := by
  have mixed := L.mixed; have t0 := L.t0; have a0 := L.a0; have z0 := L.z0; have v0 := L.v0; have t3 := L.t3; have a3 := L.a3; have z3 := L.z3; have v3 := L.v3; have t4 := L.t4; have a4 := L.a4; have z4 := L.z4; have v4 := L.v4; have tu := L.tu; have au := L.au; have zu := L.zu; have vu := L.vu; have ts := L.ts; have aS := L.aS; have zs := L.zs; have vs := L.vs; have tf := L.tf; have af := L.af; have zf := L.zf; have vf := L.vf; have aE := L.aE; have zE := L.zE
  have HC : Aside _ := hcmp
  have S0 : Aside _ := S
  have s2A := Aside0.mk s2
  have HM := Aside0.mk hone
  have e1 : IntKind.i64.wrap ((m : Int) - (a : Int)) = 1 := by rw [IntKind.wrap_i64]; omega
  have L0 : Aside0 (∀ t, m ≤ t → t < m → ltOf cf d[t]! d[a]! = true) := ⟨fun t c1 c2 => by omega⟩
  have G0 : Aside0 (∀ t, b ≤ t → t < b → ltOf cf d[t]! d[a]! = false) := ⟨fun t c1 c2 => by omega⟩
  clear S s1 s2 hone hcmp
  go_enter L.fsy, Try.ntmps117
  go_wp2
  go_loopg [10, 11] (b - m) (fun kx s10 s11 wr => ∃ (i j : Nat), s10 = .int .i64 i ∧ s11 = .int .i64 j ∧ m ≤ i ∧ i ≤ j ∧ j ≤ b ∧ j - i ≤ kx ∧ Aside (SWK enc k w0 blk off d wr) ∧ Aside0 (∀ t, m ≤ t → t < i → ltOf cf d[t]! d[a]! = true) ∧ Aside0 (∀ t, j ≤ t → t < b → ltOf cf d[t]! d[a]! = false))
  case atStart => exact ⟨m, b, rfl, rfl, Nat.le_refl _, by omega, Nat.le_refl _, Nat.le_refl _, S0, L0, G0⟩
  case round =>
    clear S0 L0 G0
    obtain ⟨i, j, rfl, rfl, hmi, hij, hjb, hkx, S1, HL, HG⟩ := hrel
    by_cases hlt : i < j
    · have hltz : (i : Int) < (j : Int) := by omega
      go_upto_region 5 with fail
      obtain ⟨c, hcc⟩ : ∃ c, c = (i + j) / 2 := ⟨_, rfl⟩
      rw [show ((i : Int) + (j : Int)) / 2 = ((c : Nat) : Int) by omega]
      have hci : i ≤ c := by omega
      have hcj : c < j := by omega
      clear hcc
      cases hL : ltOf cf d[c]! d[a]! with
      | true =>
        have HT := Aside0.mk hL
        have ea50 : ((c : Int)).toNat = c := by omega
        have pa50 : (0 : Int) ≤ (c : Int) := by omega
        have ba50 : (c : Int) < (sz : Int) := by omega
        have ec50 : ((a : Int)).toNat = a := by omega
        have pc50 : (0 : Int) ≤ (a : Int) := by omega
        have bc50 : (a : Int) < (sz : Int) := by omega
        obtain ⟨x50, hx50⟩ : ∃ x, x = d[c]! := ⟨_, rfl⟩
        obtain ⟨y50, hy50⟩ : ∃ x, x = d[a]! := ⟨_, rfl⟩
        have l50a := S1.out.ld R (by omega) P (c) (by omega)
        have l50b := S1.out.ld R (by omega) P (a) (by omega)
        rw [← hx50] at l50a
        rw [← hy50] at l50b
        have hc50 := S1.out.cmp HC.out (by omega) x50 y50
        have hv50 : cf x50 y50 < 0 := by rw [hx50, hy50]; exact of_decide_eq_true hL
        have hd50 : decide (cf x50 y50 < 0) = true := decide_eq_true hv50
        clear hx50 hy50 hL
        go_wp2_with fail
        go_quiet_grown (first | (go_at_fn g; refine Calls.grown_of (hc50 _ _)))
        have S2 : Aside (SWK enc k w0 blk off d (grow (wr.drewN nq) osq)) := S1.out.grown nq osq
        clear l50a l50b hc50 S1
        generalize grow (wr.drewN nq) osq = w2 at S2 ⊢
        clear nq osq
        go_wp2
        go_roundg (j - (c + 1))
        case measure => omega
        case rel =>
          exact ⟨c + 1, j, by go_num, rfl, by omega, by omega, hjb, Nat.le_refl _, S2, ⟨fun t c1 c2 => by
            rcases Nat.lt_or_ge t c with c3 | c3
            · cases e : ltOf cf d[t]! d[a]! with
              | true => rfl
              | false => have := hO.ntrans _ _ _ (s2A.out t c c1 c3 (by omega)) e; rw [HT.out] at this; cases this
            · have : t = c := by omega
              subst this
              exact HT.out⟩, HG⟩
      | false =>
        have HT := Aside0.mk hL
        have ea50 : ((c : Int)).toNat = c := by omega
        have pa50 : (0 : Int) ≤ (c : Int) := by omega
        have ba50 : (c : Int) < (sz : Int) := by omega
        have ec50 : ((a : Int)).toNat = a := by omega
        have pc50 : (0 : Int) ≤ (a : Int) := by omega
        have bc50 : (a : Int) < (sz : Int) := by omega
        obtain ⟨x50, hx50⟩ : ∃ x, x = d[c]! := ⟨_, rfl⟩
        obtain ⟨y50, hy50⟩ : ∃ x, x = d[a]! := ⟨_, rfl⟩
        have l50a := S1.out.ld R (by omega) P (c) (by omega)
        have l50b := S1.out.ld R (by omega) P (a) (by omega)
        rw [← hx50] at l50a
        rw [← hy50] at l50b
        have hc50 := S1.out.cmp HC.out (by omega) x50 y50
        have hv50 : ¬ cf x50 y50 < 0 := by rw [hx50, hy50]; exact of_decide_eq_false hL
        have hd50 : decide (cf x50 y50 < 0) = false := decide_eq_false hv50
        clear hx50 hy50 hL
        go_wp2_with fail
        go_quiet_grown (first | (go_at_fn g; refine Calls.grown_of (hc50 _ _)))
        have S2 : Aside (SWK enc k w0 blk off d (grow (wr.drewN nq) osq)) := S1.out.grown nq osq
        clear l50a l50b hc50 S1
        generalize grow (wr.drewN nq) osq = w2 at S2 ⊢
        clear nq osq
        go_wp2
        go_roundg (c - i)
        case measure => omega
        case rel =>
          exact ⟨i, c, rfl, rfl, hmi, by omega, by omega, Nat.le_refl _, S2, HL, ⟨fun t c1 c2 => by
            rcases Nat.lt_or_ge c t with c3 | c3
            · exact hO.ntrans _ _ _ (s2A.out c t (by omega) c3 c2) HT.out
            · have : t = c := by omega
              subst this
              exact HT.out⟩⟩
    · have hji : i = j := by omega
      subst hji
      clear hkx
      have HR0 : Aside0 (Rot d a (a + 1) (a + 1) d) := ⟨rot_none' d a (a + 1)⟩
      have ei : IntKind.i64.wrap ((i : Int) - 1) = ((i - 1 : Nat) : Int) := by rw [IntKind.wrap_i64]; omega
      have hia : a ≤ i - 1 := by omega
      go_wp2
      go_loopg [13] (i - 1 - a) (fun kx s13 wr => ∃ (kk : Nat) (dk : Array α), s13 = .int .i64 kk ∧ a ≤ kk ∧ kk ≤ i - 1 ∧ i - 1 - kk ≤ kx ∧ dk.size = sz ∧ Aside (SWK enc k w0 blk off dk wr) ∧ Aside0 (Rot d a (a + 1) (kk + 1) dk))
      case atStart => exact ⟨a, d, rfl, Nat.le_refl _, hia, Nat.le_refl _, hz, S1, HR0⟩
      case round =>
        clear S1 HR0
        obtain ⟨kk, dk, rfl, hk0, hk1, hkx, hdk, S1, HR⟩ := hrel
        by_cases hlt2 : kk < i - 1
        · have hltz2 : (kk : Int) < ((i - 1 : Nat) : Int) := by omega
          have ek : IntKind.i64.wrap ((kk : Int) + 1) = (kk : Int) + 1 := by rw [IntKind.wrap_i64]; omega
          go_wp2_with fail
          have ea75 : ((kk : Int)).toNat = kk := by omega
          have pa75 : (0 : Int) ≤ (kk : Int) := by omega
          have ba75 : (kk : Int) < (sz : Int) := by omega
          have ec75 : ((kk : Int) + 1).toNat = kk + 1 := by omega
          have pc75 : (0 : Int) ≤ (kk : Int) + 1 := by omega
          have bc75 : (kk : Int) + 1 < (sz : Int) := by omega
          have S2 : Aside (SWK enc k w0 blk off (swp dk (kk) (kk + 1)) ((wr.drew.setCells blk (off + (kk) * k) (enc dk[kk + 1]!)).setCells blk (off + (kk + 1) * k) (enc dk[kk]!))) := S1.out.swapped R (kk) (kk + 1) (by omega) (by omega)
          have l75a := S1.out.ld1 R (by omega) P (kk) (by omega)
          have l75b := S1.out.ld1 R (by omega) P (kk + 1) (by omega)
          have s75a := S1.out.st1 R (by omega) P (kk) (by omega) dk[kk + 1]!
          have s75b := S1.out.st2 R (by omega) P (kk) (kk + 1) (by omega) (by omega) dk[kk + 1]! dk[kk]!
          have n75a : (enc dk[kk]!).length = k := R.hk _
          have n75b : (enc dk[kk + 1]!).length = k := R.hk _
          generalize enc dk[kk]! = cI75 at S2 l75a s75b n75a
          generalize enc dk[kk + 1]! = cJ75 at S2 l75b s75a s75b n75b
          clear S1
          go_wp2_with fail
          go_big_region_o
          clear l75a l75b s75a s75b
          generalize (wr.drew.setCells blk (off + (kk) * k) cJ75).setCells blk (off + (kk + 1) * k) cI75 = w2 at S2 ⊢
          go_wp2
          go_roundg (i - 1 - (kk + 1))
          case measure => omega
          case rel => exact ⟨kk + 1, _, by go_num, by omega, by omega, Nat.le_refl _, by rw [size_swp]; exact hdk, S2, ⟨rot_up HR.out hk0 (by omega)⟩⟩
        · have hke : kk = i - 1 := by omega
          have hltz2 : ¬ (kk : Int) < ((i - 1 : Nat) : Int) := by omega
          go_wp2
          go_end0
          have hp := into_right (i := i) (b := b) hO (by have := HM.out; omega) (by omega) (by omega) (by rw [← HM.out]; exact s2A.out) (by rw [← HM.out]; exact HL.out) HG.out (by have := HR.out; rw [hke, show i - 1 + 1 = i by omega] at this; exact this)
          exact ⟨rfl, dk, S1.out, hp.1, hp.2⟩
set_option maxHeartbeats 4000000 in
set_option maxRecDepth 1000000 in
theorem symMerge_last (L : LE P k) {w0 : World} {blk off cap sz : Nat} {d0 : Array α} (R : RowK enc k w0 blk off d0) (hs0 : d0.size = sz) (hsz : sz < 4611686018427387904) (cf : α → α → Int) (hO : SWO (ltOf cf)) (g : Nat) (cb : Array Value) (eg : ∀ args w, (callFunc g args).run P w = .ok (.enter g args) w) (hcmp : CmpLays P g cb enc k cf blk off sz w0) {a m b : Nat} {d : Array α} {w : World} (hz : d.size = sz) (S : SWK enc k w0 blk off d w) (h1 : a < m) (h2 : m < b) (h3 : b ≤ sz) (s1 : SortedIn (ltOf cf) a m d) (s2 : SortedIn (ltOf cf) m b d) (hno : m ≠ a + 1) (hlast : b = m + 1) :
    Calls P 117 #[.slice (some ⟨blk, off, none⟩) sz cap, .int .i64 a, .int .i64 m, .int .i64 b, .func (.func g) #[] cb] w (SymPost enc k w0 blk off cf a b d) := by
  have mixed := L.mixed; have t0 := L.t0; have a0 := L.a0; have z0 := L.z0; have v0 := L.v0; have t3 := L.t3; have a3 := L.a3; have z3 := L.z3; have v3 := L.v3; have t4 := L.t4; have a4 := L.a4; have z4 := L.z4; have v4 := L.v4; have tu := L.tu; have au := L.au; have zu := L.zu; have vu := L.vu; have ts := L.ts; have aS := L.aS; have zs := L.zs; have vs := L.vs; have tf := L.tf; have af := L.af; have zf := L.zf; have vf := L.vf; have aE := L.aE; have zE := L.zE
  have HC : Aside _ := hcmp
  have S0 : Aside _ := S
  have s1A := Aside0.mk s1
  have HB := Aside0.mk hlast
  obtain ⟨q1, hq1⟩ : ∃ q : Int, q = (m : Int) - (a : Int) := ⟨_, rfl⟩
  have e1 : IntKind.i64.wrap ((m : Int) - (a : Int)) = q1 := by rw [IntKind.wrap_i64]; omega
  have d1 : (q1 == 1) = false := by rw [beq_eq_false_iff_ne]; omega
  clear hq1
  have e2 : IntKind.i64.wrap ((b : Int) - (m : Int)) = 1 := by rw [IntKind.wrap_i64]; omega
  have L0 : Aside0 (∀ t, a ≤ t → t < a → ltOf cf d[m]! d[t]! = false) := ⟨fun t c1 c2 => by omega⟩
  have G0 : Aside0 (∀ t, m ≤ t → t < m → ltOf cf d[m]! d[t]! = true) := ⟨fun t c1 c2 => by omega⟩
  clear S s1 s2 hlast hno hcmp
  go_enter L.fsy, Try.ntmps117
  go_wp2
  go_loopg [14, 15] (m - a) (fun kx s14 s15 wr => ∃ (i j : Nat), s14 = .int .i64 i ∧ s15 = .int .i64 j ∧ a ≤ i ∧ i ≤ j ∧ j ≤ m ∧ j - i ≤ kx ∧ Aside (SWK enc k w0 blk off d wr) ∧ Aside0 (∀ t, a ≤ t → t < i → ltOf cf d[m]! d[t]! = false) ∧ Aside0 (∀ t, j ≤ t → t < m → ltOf cf d[m]! d[t]! = true))
  case atStart => exact ⟨a, m, by first | rfl | go_num | (congr 1; omega), by first | rfl | go_num | (congr 1; omega), Nat.le_refl _, by omega, Nat.le_refl _, Nat.le_refl _, S0, L0, G0⟩
  case round =>
    clear S0 L0 G0
    obtain ⟨i, j, rfl, rfl, hmi, hij, hjb, hkx, S1, HL, HG⟩ := hrel
    by_cases hlt : i < j
    · have hltz : (i : Int) < (j : Int) := by omega
      go_upto_region 17 with fail
      obtain ⟨c, hcc⟩ : ∃ c, c = (i + j) / 2 := ⟨_, rfl⟩
      rw [show ((i : Int) + (j : Int)) / 2 = ((c : Nat) : Int) by omega]
      have hci : i ≤ c := by omega
      have hcj : c < j := by omega
      clear hcc
      cases hL : ltOf cf d[m]! d[c]! with
      | true =>
        have HT := Aside0.mk hL
        have ea103 : ((m : Int)).toNat = m := by omega
        have pa103 : (0 : Int) ≤ (m : Int) := by omega
        have ba103 : (m : Int) < (sz : Int) := by omega
        have ec103 : ((c : Int)).toNat = c := by omega
        have pc103 : (0 : Int) ≤ (c : Int) := by omega
        have bc103 : (c : Int) < (sz : Int) := by omega
        obtain ⟨x103, hx103⟩ : ∃ x, x = d[m]! := ⟨_, rfl⟩
        obtain ⟨y103, hy103⟩ : ∃ x, x = d[c]! := ⟨_, rfl⟩
        have l103a := S1.out.ld R (by omega) P (m) (by omega)
        have l103b := S1.out.ld R (by omega) P (c) (by omega)
        rw [← hx103] at l103a
        rw [← hy103] at l103b
        have hc103 := S1.out.cmp HC.out (by omega) x103 y103
        have hv103 : cf x103 y103 < 0 := by rw [hx103, hy103]; exact of_decide_eq_true hL
        have hd103 : decide (cf x103 y103 < 0) = true := decide_eq_true hv103
        clear hx103 hy103 hL
        go_wp2_with fail
        go_quiet_grown (first | (go_at_fn g; refine Calls.grown_of (hc103 _ _)))
        have S2 : Aside (SWK enc k w0 blk off d (grow (wr.drewN nq) osq)) := S1.out.grown nq osq
        clear l103a l103b hc103 S1
        generalize grow (wr.drewN nq) osq = w2 at S2 ⊢
        clear nq osq
        go_wp2
        go_roundg (c - i)
        case measure => omega
        case rel =>
          exact ⟨i, c, rfl, rfl, hmi, by omega, by omega, Nat.le_refl _, S2, HL, ⟨fun t c1 c2 => by
            rcases Nat.lt_or_ge c t with c3 | c3
            · cases e : ltOf cf d[m]! d[t]! with
              | true => rfl
              | false => have := hO.ntrans _ _ _ e (s1A.out c t (by omega) c3 c2); rw [HT.out] at this; cases this
            · have : t = c := by omega
              subst this
              exact HT.out⟩⟩
      | false =>
        have HT := Aside0.mk hL
        have ea103 : ((m : Int)).toNat = m := by omega
        have pa103 : (0 : Int) ≤ (m : Int) := by omega
        have ba103 : (m : Int) < (sz : Int) := by omega
        have ec103 : ((c : Int)).toNat = c := by omega
        have pc103 : (0 : Int) ≤ (c : Int) := by omega
        have bc103 : (c : Int) < (sz : Int) := by omega
        obtain ⟨x103, hx103⟩ : ∃ x, x = d[m]! := ⟨_, rfl⟩
        obtain ⟨y103, hy103⟩ : ∃ x, x = d[c]! := ⟨_, rfl⟩
        have l103a := S1.out.ld R (by omega) P (m) (by omega)
        have l103b := S1.out.ld R (by omega) P (c) (by omega)
        rw [← hx103] at l103a
        rw [← hy103] at l103b
        have hc103 := S1.out.cmp HC.out (by omega) x103 y103
        have hv103 : ¬ cf x103 y103 < 0 := by rw [hx103, hy103]; exact of_decide_eq_false hL
        have hd103 : decide (cf x103 y103 < 0) = false := decide_eq_false hv103
        clear hx103 hy103 hL
        go_wp2_with fail
        go_quiet_grown (first | (go_at_fn g; refine Calls.grown_of (hc103 _ _)))
        have S2 : Aside (SWK enc k w0 blk off d (grow (wr.drewN nq) osq)) := S1.out.grown nq osq
        clear l103a l103b hc103 S1
        generalize grow (wr.drewN nq) osq = w2 at S2 ⊢
        clear nq osq
        go_wp2
        go_roundg (j - (c + 1))
        case measure => omega
        case rel =>
          exact ⟨c + 1, j, by go_num, rfl, by omega, by omega, hjb, Nat.le_refl _, S2, ⟨fun t c1 c2 => by
            rcases Nat.lt_or_ge t c with c3 | c3
            · exact hO.ntrans _ _ _ HT.out (s1A.out t c c1 c3 (by omega))
            · have : t = c := by omega
              subst this
              exact HT.out⟩, HG⟩
    · have hji : i = j := by omega
      subst hji
      clear hkx
      have HR0 : Aside0 (Rot d m m (m + 1) d) := ⟨rot_none d m (m + 1)⟩
      go_wp2
      go_loopg [17] (m - i) (fun kx s17 wr => ∃ (kk : Nat) (dk : Array α), s17 = .int .i64 kk ∧ i ≤ kk ∧ kk ≤ m ∧ kk - i ≤ kx ∧ dk.size = sz ∧ Aside (SWK enc k w0 blk off dk wr) ∧ Aside0 (Rot d kk m (m + 1) dk))
      case atStart => exact ⟨m, d, rfl, hjb, Nat.le_refl _, Nat.le_refl _, hz, S1, HR0⟩
      case round =>
        clear S1 HR0
        obtain ⟨kk, dk, rfl, hk0, hk1, hkx, hdk, S1, HR⟩ := hrel
        by_cases hlt2 : i < kk
        · have hltz2 : (i : Int) < (kk : Int) := by omega
          have ek : IntKind.i64.wrap ((kk : Int) - 1) = (kk : Int) - 1 := by rw [IntKind.wrap_i64]; omega
          go_wp2_with fail
          have ea128 : ((kk : Int)).toNat = kk := by omega
          have pa128 : (0 : Int) ≤ (kk : Int) := by omega
          have ba128 : (kk : Int) < (sz : Int) := by omega
          have ec128 : ((kk : Int) - 1).toNat = kk - 1 := by omega
          have pc128 : (0 : Int) ≤ (kk : Int) - 1 := by omega
          have bc128 : (kk : Int) - 1 < (sz : Int) := by omega
          have S2 : Aside (SWK enc k w0 blk off (swp dk (kk) (kk - 1)) ((wr.drew.setCells blk (off + (kk) * k) (enc dk[kk - 1]!)).setCells blk (off + (kk - 1) * k) (enc dk[kk]!))) := S1.out.swapped R (kk) (kk - 1) (by omega) (by omega)
          have l128a := S1.out.ld1 R (by omega) P (kk) (by omega)
          have l128b := S1.out.ld1 R (by omega) P (kk - 1) (by omega)
          have s128a := S1.out.st1 R (by omega) P (kk) (by omega) dk[kk - 1]!
          have s128b := S1.out.st2 R (by omega) P (kk) (kk - 1) (by omega) (by omega) dk[kk - 1]! dk[kk]!
          have n128a : (enc dk[kk]!).length = k := R.hk _
          have n128b : (enc dk[kk - 1]!).length = k := R.hk _
          generalize enc dk[kk]! = cI128 at S2 l128a s128b n128a
          generalize enc dk[kk - 1]! = cJ128 at S2 l128b s128a s128b n128b
          clear S1
          go_wp2_with fail
          go_big_region_o
          clear l128a l128b s128a s128b
          generalize (wr.drew.setCells blk (off + (kk) * k) cJ128).setCells blk (off + (kk - 1) * k) cI128 = w2 at S2 ⊢
          go_wp2
          go_roundg (kk - 1 - i)
          case measure => omega
          case rel => exact ⟨kk - 1, _, by first | rfl | go_num | (congr 1; omega), by omega, by omega, by omega, by rw [size_swp]; exact hdk, S2, ⟨by have := HR.out; rw [show kk = (kk - 1) + 1 by omega] at this; have h := rot_down this (by omega) (by omega); rw [show kk - 1 + 1 = kk by omega] at h; exact h⟩⟩
        · have hke : kk = i := by omega
          have hltz2 : ¬ (i : Int) < (kk : Int) := by omega
          go_wp2
          go_end0
          have hp := into_left (i := i) hO hmi hjb (by omega) s1A.out HL.out HG.out (by have := HR.out; rw [hke] at this; exact this)
          exact ⟨rfl, dk, S1.out, by rw [HB.out]; exact hp.1, by rw [HB.out]; exact hp.2⟩
set_option maxHeartbeats 4000000 in
set_option maxRecDepth 1000000 in
theorem symMerge_any (L : LE P k) {w0 : World} {blk off cap sz : Nat} {d0 : Array α} (R : RowK enc k w0 blk off d0) (hs0 : d0.size = sz) (hsz : sz < 4611686018427387904) (cf : α → α → Int) (hO : SWO (ltOf cf)) (g : Nat) (cb : Array Value) (eg : ∀ args w, (callFunc g args).run P w = .ok (.enter g args) w) (hcmp : CmpLays P g cb enc k cf blk off sz w0)  :
    ∀ (n a m b : Nat) (d : Array α) (w : World), b - a ≤ n → d.size = sz → SWK enc k w0 blk off d w → a < m → m < b → b ≤ sz → SortedIn (ltOf cf) a m d → SortedIn (ltOf cf) m b d → Calls P 117 #[.slice (some ⟨blk, off, none⟩) sz cap, .int .i64 a, .int .i64 m, .int .i64 b, .func (.func g) #[] cb] w (SymPost enc k w0 blk off cf a b d) := by
  have mixed := L.mixed; have t0 := L.t0; have a0 := L.a0; have z0 := L.z0; have v0 := L.v0; have t3 := L.t3; have a3 := L.a3; have z3 := L.z3; have v3 := L.v3; have t4 := L.t4; have a4 := L.a4; have z4 := L.z4; have v4 := L.v4; have tu := L.tu; have au := L.au; have zu := L.zu; have vu := L.vu; have ts := L.ts; have aS := L.aS; have zs := L.zs; have vs := L.vs; have tf := L.tf; have af := L.af; have zf := L.zf; have vf := L.vf; have aE := L.aE; have zE := L.zE
  have HC : Aside _ := hcmp
  have eR : ∀ args w, (callFunc 139 args).run P w = .ok (.enter 139 args) w := enters_of L.fro (by kernel_rfl) rfl
  have eY : ∀ args w, (callFunc 117 args).run P w = .ok (.enter 117 args) w := enters_of L.fsy (by kernel_rfl) rfl
  intro n
  induction n with
  | zero => intro a m b d w h0 hz S h1 h2; omega
  | succ n ih =>
    intro a m b d w h0 hz S h1 h2 h3 s1 s2
    rcases Nat.lt_or_ge (a + 1) m with c1 | c1
    case inr => exact symMerge_one L R hs0 hsz cf hO g cb eg hcmp hz S h1 h2 h3 s1 s2 (by omega)
    rcases Nat.lt_or_ge (m + 1) b with c2 | c2
    case inr => exact symMerge_last L R hs0 hsz cf hO g cb eg hcmp hz S h1 h2 h3 s1 s2 (by omega) (by omega)
    have S0 : Aside _ := S
    have IH := Aside0.mk ih
    have s1A := Aside0.mk s1
    have s2A := Aside0.mk s2
    have HO := Aside0.mk hO
    obtain ⟨q1, hq1⟩ : ∃ q : Int, q = (m : Int) - (a : Int) := ⟨_, rfl⟩
    have e1 : IntKind.i64.wrap ((m : Int) - (a : Int)) = q1 := by rw [IntKind.wrap_i64]; omega
    have d1 : (q1 == 1) = false := by rw [beq_eq_false_iff_ne]; omega
    clear hq1
    obtain ⟨q2, hq2⟩ : ∃ q : Int, q = (b : Int) - (m : Int) := ⟨_, rfl⟩
    have e2 : IntKind.i64.wrap ((b : Int) - (m : Int)) = q2 := by rw [IntKind.wrap_i64]; omega
    have d2 : (q2 == 1) = false := by rw [beq_eq_false_iff_ne]; omega
    clear hq2
    clear S s1 s2 ih hcmp hO
    go_enter L.fsy, Try.ntmps117
    go_upto_region 25 with fail
    obtain ⟨mid, hmid⟩ : ∃ x, x = (a + b) / 2 := ⟨_, rfl⟩
    rw [show ((a : Int) + (b : Int)) / 2 = ((mid : Nat) : Int) by omega]
    have hm0 : a < mid := by omega
    have hm1 : mid < b := by omega
    have HMid := Aside0.mk hmid
    clear hmid
    go_upto_if 140 with fail
    go_cut [20, 21] from 140 to 146 (fun s20 s21 wx => ∃ (st0 r0 : Nat), s20 = .int .i64 st0 ∧ s21 = .int .i64 r0 ∧ a ≤ st0 ∧ st0 ≤ r0 ∧ r0 ≤ m ∧ r0 ≤ mid ∧ m + r0 ≤ mid + m ∧ mid + m ≤ b + st0 ∧ Aside0 (st0 = a ∨ mid + m - st0 = b) ∧ Aside0 (r0 = m ∨ mid + m - r0 = m) ∧ Aside (SWK enc k w0 blk off d wx))
    case first =>
      by_cases hgt : mid < m
      · have hgz : (mid : Int) < (m : Int) := by omega
        have := HMid.out
        have hge : b ≤ mid + m := by omega
        clear this
        go_wp2
        go_meet
        exact ⟨mid + m - b, mid, by congr 1; omega, by first | rfl | go_num | (congr 1; omega), by have := HMid.out; omega, by omega, by omega, by omega, by omega, by omega, ⟨Or.inr (by have := HMid.out; omega)⟩, ⟨Or.inr (by omega)⟩, S0⟩
      · have hgz : ¬ (mid : Int) < (m : Int) := by omega
        go_wp2
        go_meet
        exact ⟨a, m, by first | rfl | go_num | (congr 1; omega), by first | rfl | go_num | (congr 1; omega), Nat.le_refl _, by omega, Nat.le_refl _, by omega, by omega, by have := HMid.out; omega, ⟨Or.inl rfl⟩, ⟨Or.inl rfl⟩, S0⟩
    case rest =>
      clear S0
      obtain ⟨st0, r0, rfl, rfl, q0, q1, q2, q3, q4, q5, E0, E1, S0⟩ := hcut
      have L0 : Aside0 (∀ c, st0 ≤ c → c < st0 → ltOf cf d[mid + m - 1 - c]! d[c]! = false) := ⟨fun t c1 c2 => by omega⟩
      have G0 : Aside0 (∀ c, r0 ≤ c → c < r0 → ltOf cf d[mid + m - 1 - c]! d[c]! = true) := ⟨fun t c1 c2 => by omega⟩
      go_wp2
      go_loopg [20, 21] (r0 - st0) (fun kx s20 s21 wr => ∃ (st r : Nat), s20 = .int .i64 st ∧ s21 = .int .i64 r ∧ st0 ≤ st ∧ st ≤ r ∧ r ≤ r0 ∧ r - st ≤ kx ∧ Aside (SWK enc k w0 blk off d wr) ∧ Aside0 (∀ c, st0 ≤ c → c < st → ltOf cf d[mid + m - 1 - c]! d[c]! = false) ∧ Aside0 (∀ c, r ≤ c → c < r0 → ltOf cf d[mid + m - 1 - c]! d[c]! = true))
      case atStart => exact ⟨st0, r0, rfl, rfl, Nat.le_refl _, q1, Nat.le_refl _, Nat.le_refl _, S0, L0, G0⟩
      case round =>
        clear S0 L0 G0
        obtain ⟨st, r, rfl, rfl, hs1, hs2, hs3, hkx, S1, HL, HG⟩ := hrel
        by_cases hlt : st < r
        · have hltz : (st : Int) < (r : Int) := by omega
          go_upto_region 35 with fail
          obtain ⟨c, hcc⟩ : ∃ c, c = (st + r) / 2 := ⟨_, rfl⟩
          rw [show ((st : Int) + (r : Int)) / 2 = ((c : Nat) : Int) by omega]
          have hci : st ≤ c := by omega
          have hcj : c < r := by omega
          clear hcc
          have HN : mid + m - 1 - c < sz := by omega
          have pz : (c : Int) ≤ (mid : Int) + (m : Int) - 1 := by omega
          have e6 : IntKind.i64.wrap ((mid : Int) + (m : Int) - 1 - (c : Int)) = (mid : Int) + (m : Int) - 1 - (c : Int) := by rw [IntKind.wrap_i64]; omega
          cases hL : ltOf cf d[mid + m - 1 - c]! d[c]! with
          | true =>
            have HT := Aside0.mk hL
            have ea171 : ((mid : Int) + (m : Int) - 1 - (c : Int)).toNat = mid + m - 1 - c := by omega
            have pa171 : (0 : Int) ≤ (mid : Int) + (m : Int) - 1 - (c : Int) := by omega
            have ba171 : (mid : Int) + (m : Int) - 1 - (c : Int) < (sz : Int) := by omega
            have ec171 : ((c : Int)).toNat = c := by omega
            have pc171 : (0 : Int) ≤ (c : Int) := by omega
            have bc171 : (c : Int) < (sz : Int) := by omega
            obtain ⟨x171, hx171⟩ : ∃ x, x = d[mid + m - 1 - c]! := ⟨_, rfl⟩
            obtain ⟨y171, hy171⟩ : ∃ x, x = d[c]! := ⟨_, rfl⟩
            have l171a := S1.out.ld R (by omega) P (mid + m - 1 - c) (by omega)
            have l171b := S1.out.ld R (by omega) P (c) (by omega)
            rw [← hx171] at l171a
            rw [← hy171] at l171b
            have hc171 := S1.out.cmp HC.out (by omega) x171 y171
            have hv171 : cf x171 y171 < 0 := by rw [hx171, hy171]; exact of_decide_eq_true hL
            have hd171 : decide (cf x171 y171 < 0) = true := decide_eq_true hv171
            clear hx171 hy171 hL
            go_wp2_with fail
            go_quiet_grown (first | (go_at_fn g; refine Calls.grown_of (hc171 _ _)))
            have S2 : Aside (SWK enc k w0 blk off d (grow (wr.drewN nq) osq)) := S1.out.grown nq osq
            clear l171a l171b hc171 S1
            generalize grow (wr.drewN nq) osq = w2 at S2 ⊢
            clear nq osq
            go_wp2
            go_roundg (c - st)
            case measure => omega
            case rel =>
              have hT := HT.out
              have MON : ∀ x y, st0 ≤ x → x ≤ y → y < r0 → ltOf cf d[y]! d[x]! = false ∧ ltOf cf d[mid + m - 1 - x]! d[mid + m - 1 - y]! = false := fun x y c1 c2 c3 => by
                rcases Nat.lt_or_ge x y with c4 | c4
                · exact ⟨s1A.out x y (by omega) c4 (by omega), s2A.out (mid + m - 1 - y) (mid + m - 1 - x) (by omega) (by omega) (by omega)⟩
                · have : x = y := by omega
                  subst this
                  exact ⟨HO.out.irrefl _, HO.out.irrefl _⟩
              exact ⟨st, c, rfl, rfl, hs1, hci, by omega, Nat.le_refl _, S2, HL, ⟨fun t c1 c2 => by
                obtain ⟨m1, m2⟩ := MON c t (by omega) c1 c2
                cases e : ltOf cf d[mid + m - 1 - t]! d[t]! with
                | true => rfl
                | false => have := HO.out.ntrans _ _ _ (HO.out.ntrans _ _ _ m2 e) m1; rw [hT] at this; cases this⟩⟩
          | false =>
            have HT := Aside0.mk hL
            have ea171 : ((mid : Int) + (m : Int) - 1 - (c : Int)).toNat = mid + m - 1 - c := by omega
            have pa171 : (0 : Int) ≤ (mid : Int) + (m : Int) - 1 - (c : Int) := by omega
            have ba171 : (mid : Int) + (m : Int) - 1 - (c : Int) < (sz : Int) := by omega
            have ec171 : ((c : Int)).toNat = c := by omega
            have pc171 : (0 : Int) ≤ (c : Int) := by omega
            have bc171 : (c : Int) < (sz : Int) := by omega
            obtain ⟨x171, hx171⟩ : ∃ x, x = d[mid + m - 1 - c]! := ⟨_, rfl⟩
            obtain ⟨y171, hy171⟩ : ∃ x, x = d[c]! := ⟨_, rfl⟩
            have l171a := S1.out.ld R (by omega) P (mid + m - 1 - c) (by omega)
            have l171b := S1.out.ld R (by omega) P (c) (by omega)
            rw [← hx171] at l171a
            rw [← hy171] at l171b
            have hc171 := S1.out.cmp HC.out (by omega) x171 y171
            have hv171 : ¬ cf x171 y171 < 0 := by rw [hx171, hy171]; exact of_decide_eq_false hL
            have hd171 : decide (cf x171 y171 < 0) = false := decide_eq_false hv171
            clear hx171 hy171 hL
            go_wp2_with fail
            go_quiet_grown (first | (go_at_fn g; refine Calls.grown_of (hc171 _ _)))
            have S2 : Aside (SWK enc k w0 blk off d (grow (wr.drewN nq) osq)) := S1.out.grown nq osq
            clear l171a l171b hc171 S1
            generalize grow (wr.drewN nq) osq = w2 at S2 ⊢
            clear nq osq
            go_wp2
            go_roundg (r - (c + 1))
            case measure => omega
            case rel =>
              have hT := HT.out
              have MON : ∀ x y, st0 ≤ x → x ≤ y → y < r0 → ltOf cf d[y]! d[x]! = false ∧ ltOf cf d[mid + m - 1 - x]! d[mid + m - 1 - y]! = false := fun x y c1 c2 c3 => by
                rcases Nat.lt_or_ge x y with c4 | c4
                · exact ⟨s1A.out x y (by omega) c4 (by omega), s2A.out (mid + m - 1 - y) (mid + m - 1 - x) (by omega) (by omega) (by omega)⟩
                · have : x = y := by omega
                  subst this
                  exact ⟨HO.out.irrefl _, HO.out.irrefl _⟩
              exact ⟨c + 1, r, by go_num, rfl, by omega, by omega, hs3, Nat.le_refl _, S2, ⟨fun t c1 c2 => by
                obtain ⟨m1, m2⟩ := MON t c (by omega) (by omega) (by omega)
                exact HO.out.ntrans _ _ _ (HO.out.ntrans _ _ _ m2 hT) m1⟩, HG⟩
        · have hsr : st = r := by omega
          subst hsr
          clear hkx
          have hX := search_ok HO.out s1A.out s2A.out q0 hs1 hs3 q2 q4 q5 HL.out HG.out E0.out E1.out
          obtain ⟨en, hen⟩ : ∃ x, x = mid + m - st := ⟨_, rfl⟩
          have e7 : IntKind.i64.wrap ((mid : Int) + (m : Int) - (st : Int)) = (mid : Int) + (m : Int) - (st : Int) := by rw [IntKind.wrap_i64]; omega
          go_upto_region 39 with fail
          rw [show (mid : Int) + (m : Int) - (st : Int) = ((en : Nat) : Int) by omega]
          clear e7
          have k1 : a ≤ st := by omega
          have k2 : st ≤ m := by omega
          have k3 : m ≤ en := by omega
          have k4 : en ≤ b := by omega
          have k5 : mid = st + (en - m) := by omega
          rw [← hen] at hX
          have MFX := Aside0.mk (merge_facts k1 k2 k3 k4 k5 hz h3 s1A.out s2A.out hX.1 hX.2)
          have k6 : mid ≤ en := by omega
          have k7 : st ≤ mid := by omega
          clear hX HL HG E0 E1 hs1 hs2 hs3 q0 q1 q2 q3 q4 q5 hen s1A s2A k5
          by_cases g1 : st < m
          case neg =>
            have g1z : decide ((st : Int) < (m : Int)) = false := decide_eq_false (by omega)
            have hno : ¬ (st < m ∧ m < en) := fun h => g1 h.1
            obtain ⟨d1, hd1⟩ : ∃ x, x = d := ⟨_, rfl⟩
            have R1 : Aside0 (Rot d st m en d1) := ⟨by rw [hd1]; exact MFX.out.n1 hno⟩
            rw [← hd1] at S1
            clear hd1 hno
            go_upto_region 41 with fail
            have hz1 : d1.size = sz := (MFX.out.f1 _ R1.out).1
            clear g1
            by_cases g1 : a < st
            case neg =>
              have g1z : decide ((a : Int) < (st : Int)) = false := decide_eq_false (by omega)
              have hno : ¬ (a < st ∧ st < mid) := fun h => g1 h.1
              obtain ⟨d2, hd2⟩ : ∃ x, x = d1 := ⟨_, rfl⟩
              have P2 : Aside0 (PermIn a mid d1 d2) := ⟨by rw [hd2]; exact permIn_refl _ _ _⟩
              have Q2 : Aside0 (SortedIn (ltOf cf) a mid d2) := ⟨by rw [hd2]; exact MFX.out.n2 _ R1.out hno⟩
              rw [← hd2] at S1
              clear hd2 hno
              go_upto_region 43 with fail
              have hz2 : d2.size = sz := (MFX.out.f2 _ _ R1.out P2.out).1
              clear g1
              by_cases g1 : mid < en
              case neg =>
                have g1z : decide ((mid : Int) < (en : Int)) = false := decide_eq_false (by omega)
                have hno : ¬ (mid < en ∧ en < b) := fun h => g1 h.1
                have h3 := MFX.out.n3 _ _ R1.out P2.out hno
                go_wp2
                go_end0
                have := MFX.out.fin _ _ _ R1.out P2.out Q2.out (permIn_refl _ _ _) h3
                exact ⟨rfl, _, S1.out, this.1, this.2⟩
              case pos =>
                have g1z : decide ((mid : Int) < (en : Int)) = true := decide_eq_true (by omega)
                by_cases g2 : en < b
                case neg =>
                  have g2z : decide ((en : Int) < (b : Int)) = false := decide_eq_false (by omega)
                  have hno : ¬ (mid < en ∧ en < b) := fun h => g2 h.2
                  have h3 := MFX.out.n3 _ _ R1.out P2.out hno
                  go_wp2
                  go_end0
                  have := MFX.out.fin _ _ _ R1.out P2.out Q2.out (permIn_refl _ _ _) h3
                  exact ⟨rfl, _, S1.out, this.1, this.2⟩
                case pos =>
                  have g2z : decide ((en : Int) < (b : Int)) = true := decide_eq_true (by omega)
                  have hcall := IH.out mid en b d2 _ (by omega) hz2 S1.out g1 g2 h3 (MFX.out.f2 _ _ R1.out P2.out).2.1 (MFX.out.f2 _ _ R1.out P2.out).2.2
                  clear S1
                  go_wp2_with (go_at_fn 117; refine hcall.mono ?_; rintro e w1 ⟨rfl, d3, S2, HS⟩)
                  go_end0
                  have := MFX.out.fin _ _ _ R1.out P2.out Q2.out HS.1 HS.2
                  exact ⟨rfl, d3, S2, this.1, this.2⟩
            case pos =>
              have g1z : decide ((a : Int) < (st : Int)) = true := decide_eq_true (by omega)
              by_cases g2 : st < mid
              case neg =>
                have g2z : decide ((st : Int) < (mid : Int)) = false := decide_eq_false (by omega)
                have hno : ¬ (a < st ∧ st < mid) := fun h => g2 h.2
                obtain ⟨d2, hd2⟩ : ∃ x, x = d1 := ⟨_, rfl⟩
                have P2 : Aside0 (PermIn a mid d1 d2) := ⟨by rw [hd2]; exact permIn_refl _ _ _⟩
                have Q2 : Aside0 (SortedIn (ltOf cf) a mid d2) := ⟨by rw [hd2]; exact MFX.out.n2 _ R1.out hno⟩
                rw [← hd2] at S1
                clear hd2 hno
                go_upto_region 43 with fail
                have hz2 : d2.size = sz := (MFX.out.f2 _ _ R1.out P2.out).1
                clear g1
                by_cases g1 : mid < en
                case neg =>
                  have g1z : decide ((mid : Int) < (en : Int)) = false := decide_eq_false (by omega)
                  have hno : ¬ (mid < en ∧ en < b) := fun h => g1 h.1
                  have h3 := MFX.out.n3 _ _ R1.out P2.out hno
                  go_wp2
                  go_end0
                  have := MFX.out.fin _ _ _ R1.out P2.out Q2.out (permIn_refl _ _ _) h3
                  exact ⟨rfl, _, S1.out, this.1, this.2⟩
                case pos =>
                  have g1z : decide ((mid : Int) < (en : Int)) = true := decide_eq_true (by omega)
                  by_cases g2 : en < b
                  case neg =>
                    have g2z : decide ((en : Int) < (b : Int)) = false := decide_eq_false (by omega)
                    have hno : ¬ (mid < en ∧ en < b) := fun h => g2 h.2
                    have h3 := MFX.out.n3 _ _ R1.out P2.out hno
                    go_wp2
                    go_end0
                    have := MFX.out.fin _ _ _ R1.out P2.out Q2.out (permIn_refl _ _ _) h3
                    exact ⟨rfl, _, S1.out, this.1, this.2⟩
                  case pos =>
                    have g2z : decide ((en : Int) < (b : Int)) = true := decide_eq_true (by omega)
                    have hcall := IH.out mid en b d2 _ (by omega) hz2 S1.out g1 g2 h3 (MFX.out.f2 _ _ R1.out P2.out).2.1 (MFX.out.f2 _ _ R1.out P2.out).2.2
                    clear S1
                    go_wp2_with (go_at_fn 117; refine hcall.mono ?_; rintro e w1 ⟨rfl, d3, S2, HS⟩)
                    go_end0
                    have := MFX.out.fin _ _ _ R1.out P2.out Q2.out HS.1 HS.2
                    exact ⟨rfl, d3, S2, this.1, this.2⟩
              case pos =>
                have g2z : decide ((st : Int) < (mid : Int)) = true := decide_eq_true (by omega)
                have hcall := IH.out a st mid d1 _ (by omega) hz1 S1.out g1 g2 (by omega) (MFX.out.f1 _ R1.out).2.1 (MFX.out.f1 _ R1.out).2.2
                clear S1
                go_upto_region 43 with (go_at_fn 117; refine hcall.mono ?_; rintro e w1 ⟨rfl, d2, S9, HS⟩)
                have S1 : Aside _ := S9
                clear S9
                have P2 := Aside0.mk HS.1
                have Q2 := Aside0.mk HS.2
                clear HS hcall
                have hz2 : d2.size = sz := (MFX.out.f2 _ _ R1.out P2.out).1
                clear g1
                by_cases g1 : mid < en
                case neg =>
                  have g1z : decide ((mid : Int) < (en : Int)) = false := decide_eq_false (by omega)
                  have hno : ¬ (mid < en ∧ en < b) := fun h => g1 h.1
                  have h3 := MFX.out.n3 _ _ R1.out P2.out hno
                  go_wp2
                  go_end0
                  have := MFX.out.fin _ _ _ R1.out P2.out Q2.out (permIn_refl _ _ _) h3
                  exact ⟨rfl, _, S1.out, this.1, this.2⟩
                case pos =>
                  have g1z : decide ((mid : Int) < (en : Int)) = true := decide_eq_true (by omega)
                  by_cases g2 : en < b
                  case neg =>
                    have g2z : decide ((en : Int) < (b : Int)) = false := decide_eq_false (by omega)
                    have hno : ¬ (mid < en ∧ en < b) := fun h => g2 h.2
                    have h3 := MFX.out.n3 _ _ R1.out P2.out hno
                    go_wp2
                    go_end0
                    have := MFX.out.fin _ _ _ R1.out P2.out Q2.out (permIn_refl _ _ _) h3
                    exact ⟨rfl, _, S1.out, this.1, this.2⟩
                  case pos =>
                    have g2z : decide ((en : Int) < (b : Int)) = true := decide_eq_true (by omega)
                    have hcall := IH.out mid en b d2 _ (by omega) hz2 S1.out g1 g2 h3 (MFX.out.f2 _ _ R1.out P2.out).2.1 (MFX.out.f2 _ _ R1.out P2.out).2.2
                    clear S1
                    go_wp2_with (go_at_fn 117; refine hcall.mono ?_; rintro e w1 ⟨rfl, d3, S2, HS⟩)
                    go_end0
                    have := MFX.out.fin _ _ _ R1.out P2.out Q2.out HS.1 HS.2
                    exact ⟨rfl, d3, S2, this.1, this.2⟩
          case pos =>
            have g1z : decide ((st : Int) < (m : Int)) = true := decide_eq_true (by omega)
            by_cases g2 : m < en
            case neg =>
              have g2z : decide ((m : Int) < (en : Int)) = false := decide_eq_false (by omega)
              have hno : ¬ (st < m ∧ m < en) := fun h => g2 h.2
              obtain ⟨d1, hd1⟩ : ∃ x, x = d := ⟨_, rfl⟩
              have R1 : Aside0 (Rot d st m en d1) := ⟨by rw [hd1]; exact MFX.out.n1 hno⟩
              rw [← hd1] at S1
              clear hd1 hno
              go_upto_region 41 with fail
              have hz1 : d1.size = sz := (MFX.out.f1 _ R1.out).1
              clear g1
              by_cases g1 : a < st
              case neg =>
                have g1z : decide ((a : Int) < (st : Int)) = false := decide_eq_false (by omega)
                have hno : ¬ (a < st ∧ st < mid) := fun h => g1 h.1
                obtain ⟨d2, hd2⟩ : ∃ x, x = d1 := ⟨_, rfl⟩
                have P2 : Aside0 (PermIn a mid d1 d2) := ⟨by rw [hd2]; exact permIn_refl _ _ _⟩
                have Q2 : Aside0 (SortedIn (ltOf cf) a mid d2) := ⟨by rw [hd2]; exact MFX.out.n2 _ R1.out hno⟩
                rw [← hd2] at S1
                clear hd2 hno
                go_upto_region 43 with fail
                have hz2 : d2.size = sz := (MFX.out.f2 _ _ R1.out P2.out).1
                clear g1
                by_cases g1 : mid < en
                case neg =>
                  have g1z : decide ((mid : Int) < (en : Int)) = false := decide_eq_false (by omega)
                  have hno : ¬ (mid < en ∧ en < b) := fun h => g1 h.1
                  have h3 := MFX.out.n3 _ _ R1.out P2.out hno
                  go_wp2
                  go_end0
                  have := MFX.out.fin _ _ _ R1.out P2.out Q2.out (permIn_refl _ _ _) h3
                  exact ⟨rfl, _, S1.out, this.1, this.2⟩
                case pos =>
                  have g1z : decide ((mid : Int) < (en : Int)) = true := decide_eq_true (by omega)
                  by_cases g2 : en < b
                  case neg =>
                    have g2z : decide ((en : Int) < (b : Int)) = false := decide_eq_false (by omega)
                    have hno : ¬ (mid < en ∧ en < b) := fun h => g2 h.2
                    have h3 := MFX.out.n3 _ _ R1.out P2.out hno
                    go_wp2
                    go_end0
                    have := MFX.out.fin _ _ _ R1.out P2.out Q2.out (permIn_refl _ _ _) h3
                    exact ⟨rfl, _, S1.out, this.1, this.2⟩
                  case pos =>
                    have g2z : decide ((en : Int) < (b : Int)) = true := decide_eq_true (by omega)
                    have hcall := IH.out mid en b d2 _ (by omega) hz2 S1.out g1 g2 h3 (MFX.out.f2 _ _ R1.out P2.out).2.1 (MFX.out.f2 _ _ R1.out P2.out).2.2
                    clear S1
                    go_wp2_with (go_at_fn 117; refine hcall.mono ?_; rintro e w1 ⟨rfl, d3, S2, HS⟩)
                    go_end0
                    have := MFX.out.fin _ _ _ R1.out P2.out Q2.out HS.1 HS.2
                    exact ⟨rfl, d3, S2, this.1, this.2⟩
              case pos =>
                have g1z : decide ((a : Int) < (st : Int)) = true := decide_eq_true (by omega)
                by_cases g2 : st < mid
                case neg =>
                  have g2z : decide ((st : Int) < (mid : Int)) = false := decide_eq_false (by omega)
                  have hno : ¬ (a < st ∧ st < mid) := fun h => g2 h.2
                  obtain ⟨d2, hd2⟩ : ∃ x, x = d1 := ⟨_, rfl⟩
                  have P2 : Aside0 (PermIn a mid d1 d2) := ⟨by rw [hd2]; exact permIn_refl _ _ _⟩
                  have Q2 : Aside0 (SortedIn (ltOf cf) a mid d2) := ⟨by rw [hd2]; exact MFX.out.n2 _ R1.out hno⟩
                  rw [← hd2] at S1
                  clear hd2 hno
                  go_upto_region 43 with fail
                  have hz2 : d2.size = sz := (MFX.out.f2 _ _ R1.out P2.out).1
                  clear g1
                  by_cases g1 : mid < en
                  case neg =>
                    have g1z : decide ((mid : Int) < (en : Int)) = false := decide_eq_false (by omega)
                    have hno : ¬ (mid < en ∧ en < b) := fun h => g1 h.1
                    have h3 := MFX.out.n3 _ _ R1.out P2.out hno
                    go_wp2
                    go_end0
                    have := MFX.out.fin _ _ _ R1.out P2.out Q2.out (permIn_refl _ _ _) h3
                    exact ⟨rfl, _, S1.out, this.1, this.2⟩
                  case pos =>
                    have g1z : decide ((mid : Int) < (en : Int)) = true := decide_eq_true (by omega)
                    by_cases g2 : en < b
                    case neg =>
                      have g2z : decide ((en : Int) < (b : Int)) = false := decide_eq_false (by omega)
                      have hno : ¬ (mid < en ∧ en < b) := fun h => g2 h.2
                      have h3 := MFX.out.n3 _ _ R1.out P2.out hno
                      go_wp2
                      go_end0
                      have := MFX.out.fin _ _ _ R1.out P2.out Q2.out (permIn_refl _ _ _) h3
                      exact ⟨rfl, _, S1.out, this.1, this.2⟩
                    case pos =>
                      have g2z : decide ((en : Int) < (b : Int)) = true := decide_eq_true (by omega)
                      have hcall := IH.out mid en b d2 _ (by omega) hz2 S1.out g1 g2 h3 (MFX.out.f2 _ _ R1.out P2.out).2.1 (MFX.out.f2 _ _ R1.out P2.out).2.2
                      clear S1
                      go_wp2_with (go_at_fn 117; refine hcall.mono ?_; rintro e w1 ⟨rfl, d3, S2, HS⟩)
                      go_end0
                      have := MFX.out.fin _ _ _ R1.out P2.out Q2.out HS.1 HS.2
                      exact ⟨rfl, d3, S2, this.1, this.2⟩
                case pos =>
                  have g2z : decide ((st : Int) < (mid : Int)) = true := decide_eq_true (by omega)
                  have hcall := IH.out a st mid d1 _ (by omega) hz1 S1.out g1 g2 (by omega) (MFX.out.f1 _ R1.out).2.1 (MFX.out.f1 _ R1.out).2.2
                  clear S1
                  go_upto_region 43 with (go_at_fn 117; refine hcall.mono ?_; rintro e w1 ⟨rfl, d2, S9, HS⟩)
                  have S1 : Aside _ := S9
                  clear S9
                  have P2 := Aside0.mk HS.1
                  have Q2 := Aside0.mk HS.2
                  clear HS hcall
                  have hz2 : d2.size = sz := (MFX.out.f2 _ _ R1.out P2.out).1
                  clear g1
                  by_cases g1 : mid < en
                  case neg =>
                    have g1z : decide ((mid : Int) < (en : Int)) = false := decide_eq_false (by omega)
                    have hno : ¬ (mid < en ∧ en < b) := fun h => g1 h.1
                    have h3 := MFX.out.n3 _ _ R1.out P2.out hno
                    go_wp2
                    go_end0
                    have := MFX.out.fin _ _ _ R1.out P2.out Q2.out (permIn_refl _ _ _) h3
                    exact ⟨rfl, _, S1.out, this.1, this.2⟩
                  case pos =>
                    have g1z : decide ((mid : Int) < (en : Int)) = true := decide_eq_true (by omega)
                    by_cases g2 : en < b
                    case neg =>
                      have g2z : decide ((en : Int) < (b : Int)) = false := decide_eq_false (by omega)
                      have hno : ¬ (mid < en ∧ en < b) := fun h => g2 h.2
                      have h3 := MFX.out.n3 _ _ R1.out P2.out hno
                      go_wp2
                      go_end0
                      have := MFX.out.fin _ _ _ R1.out P2.out Q2.out (permIn_refl _ _ _) h3
                      exact ⟨rfl, _, S1.out, this.1, this.2⟩
                    case pos =>
                      have g2z : decide ((en : Int) < (b : Int)) = true := decide_eq_true (by omega)
                      have hcall := IH.out mid en b d2 _ (by omega) hz2 S1.out g1 g2 h3 (MFX.out.f2 _ _ R1.out P2.out).2.1 (MFX.out.f2 _ _ R1.out P2.out).2.2
                      clear S1
                      go_wp2_with (go_at_fn 117; refine hcall.mono ?_; rintro e w1 ⟨rfl, d3, S2, HS⟩)
                      go_end0
                      have := MFX.out.fin _ _ _ R1.out P2.out Q2.out HS.1 HS.2
                      exact ⟨rfl, d3, S2, this.1, this.2⟩
            case pos =>
              have g2z : decide ((m : Int) < (en : Int)) = true := decide_eq_true (by omega)
              have hcall := rotate_any L (cap := cap) R hs0 hz hsz S1.out (.func (.func g) #[] cb) st m en g1 g2 (by omega)
              clear S1
              go_upto_region 41 with (go_at_fn 139; refine hcall.mono ?_; rintro e w1 ⟨rfl, d1, S9, HS⟩)
              have S1 : Aside _ := S9
              clear S9
              have R1 := Aside0.mk HS
              clear HS hcall
              have hz1 : d1.size = sz := (MFX.out.f1 _ R1.out).1
              clear g1
              by_cases g1 : a < st
              case neg =>
                have g1z : decide ((a : Int) < (st : Int)) = false := decide_eq_false (by omega)
                have hno : ¬ (a < st ∧ st < mid) := fun h => g1 h.1
                obtain ⟨d2, hd2⟩ : ∃ x, x = d1 := ⟨_, rfl⟩
                have P2 : Aside0 (PermIn a mid d1 d2) := ⟨by rw [hd2]; exact permIn_refl _ _ _⟩
                have Q2 : Aside0 (SortedIn (ltOf cf) a mid d2) := ⟨by rw [hd2]; exact MFX.out.n2 _ R1.out hno⟩
                rw [← hd2] at S1
                clear hd2 hno
                go_upto_region 43 with fail
                have hz2 : d2.size = sz := (MFX.out.f2 _ _ R1.out P2.out).1
                clear g1
                by_cases g1 : mid < en
                case neg =>
                  have g1z : decide ((mid : Int) < (en : Int)) = false := decide_eq_false (by omega)
                  have hno : ¬ (mid < en ∧ en < b) := fun h => g1 h.1
                  have h3 := MFX.out.n3 _ _ R1.out P2.out hno
                  go_wp2
                  go_end0
                  have := MFX.out.fin _ _ _ R1.out P2.out Q2.out (permIn_refl _ _ _) h3
                  exact ⟨rfl, _, S1.out, this.1, this.2⟩
                case pos =>
                  have g1z : decide ((mid : Int) < (en : Int)) = true := decide_eq_true (by omega)
                  by_cases g2 : en < b
                  case neg =>
                    have g2z : decide ((en : Int) < (b : Int)) = false := decide_eq_false (by omega)
                    have hno : ¬ (mid < en ∧ en < b) := fun h => g2 h.2
                    have h3 := MFX.out.n3 _ _ R1.out P2.out hno
                    go_wp2
                    go_end0
                    have := MFX.out.fin _ _ _ R1.out P2.out Q2.out (permIn_refl _ _ _) h3
                    exact ⟨rfl, _, S1.out, this.1, this.2⟩
                  case pos =>
                    have g2z : decide ((en : Int) < (b : Int)) = true := decide_eq_true (by omega)
                    have hcall := IH.out mid en b d2 _ (by omega) hz2 S1.out g1 g2 h3 (MFX.out.f2 _ _ R1.out P2.out).2.1 (MFX.out.f2 _ _ R1.out P2.out).2.2
                    clear S1
                    go_wp2_with (go_at_fn 117; refine hcall.mono ?_; rintro e w1 ⟨rfl, d3, S2, HS⟩)
                    go_end0
                    have := MFX.out.fin _ _ _ R1.out P2.out Q2.out HS.1 HS.2
                    exact ⟨rfl, d3, S2, this.1, this.2⟩
              case pos =>
                have g1z : decide ((a : Int) < (st : Int)) = true := decide_eq_true (by omega)
                by_cases g2 : st < mid
                case neg =>
                  have g2z : decide ((st : Int) < (mid : Int)) = false := decide_eq_false (by omega)
                  have hno : ¬ (a < st ∧ st < mid) := fun h => g2 h.2
                  obtain ⟨d2, hd2⟩ : ∃ x, x = d1 := ⟨_, rfl⟩
                  have P2 : Aside0 (PermIn a mid d1 d2) := ⟨by rw [hd2]; exact permIn_refl _ _ _⟩
                  have Q2 : Aside0 (SortedIn (ltOf cf) a mid d2) := ⟨by rw [hd2]; exact MFX.out.n2 _ R1.out hno⟩
                  rw [← hd2] at S1
                  clear hd2 hno
                  go_upto_region 43 with fail
                  have hz2 : d2.size = sz := (MFX.out.f2 _ _ R1.out P2.out).1
                  clear g1
                  by_cases g1 : mid < en
                  case neg =>
                    have g1z : decide ((mid : Int) < (en : Int)) = false := decide_eq_false (by omega)
                    have hno : ¬ (mid < en ∧ en < b) := fun h => g1 h.1
                    have h3 := MFX.out.n3 _ _ R1.out P2.out hno
                    go_wp2
                    go_end0
                    have := MFX.out.fin _ _ _ R1.out P2.out Q2.out (permIn_refl _ _ _) h3
                    exact ⟨rfl, _, S1.out, this.1, this.2⟩
                  case pos =>
                    have g1z : decide ((mid : Int) < (en : Int)) = true := decide_eq_true (by omega)
                    by_cases g2 : en < b
                    case neg =>
                      have g2z : decide ((en : Int) < (b : Int)) = false := decide_eq_false (by omega)
                      have hno : ¬ (mid < en ∧ en < b) := fun h => g2 h.2
                      have h3 := MFX.out.n3 _ _ R1.out P2.out hno
                      go_wp2
                      go_end0
                      have := MFX.out.fin _ _ _ R1.out P2.out Q2.out (permIn_refl _ _ _) h3
                      exact ⟨rfl, _, S1.out, this.1, this.2⟩
                    case pos =>
                      have g2z : decide ((en : Int) < (b : Int)) = true := decide_eq_true (by omega)
                      have hcall := IH.out mid en b d2 _ (by omega) hz2 S1.out g1 g2 h3 (MFX.out.f2 _ _ R1.out P2.out).2.1 (MFX.out.f2 _ _ R1.out P2.out).2.2
                      clear S1
                      go_wp2_with (go_at_fn 117; refine hcall.mono ?_; rintro e w1 ⟨rfl, d3, S2, HS⟩)
                      go_end0
                      have := MFX.out.fin _ _ _ R1.out P2.out Q2.out HS.1 HS.2
                      exact ⟨rfl, d3, S2, this.1, this.2⟩
                case pos =>
                  have g2z : decide ((st : Int) < (mid : Int)) = true := decide_eq_true (by omega)
                  have hcall := IH.out a st mid d1 _ (by omega) hz1 S1.out g1 g2 (by omega) (MFX.out.f1 _ R1.out).2.1 (MFX.out.f1 _ R1.out).2.2
                  clear S1
                  go_upto_region 43 with (go_at_fn 117; refine hcall.mono ?_; rintro e w1 ⟨rfl, d2, S9, HS⟩)
                  have S1 : Aside _ := S9
                  clear S9
                  have P2 := Aside0.mk HS.1
                  have Q2 := Aside0.mk HS.2
                  clear HS hcall
                  have hz2 : d2.size = sz := (MFX.out.f2 _ _ R1.out P2.out).1
                  clear g1
                  by_cases g1 : mid < en
                  case neg =>
                    have g1z : decide ((mid : Int) < (en : Int)) = false := decide_eq_false (by omega)
                    have hno : ¬ (mid < en ∧ en < b) := fun h => g1 h.1
                    have h3 := MFX.out.n3 _ _ R1.out P2.out hno
                    go_wp2
                    go_end0
                    have := MFX.out.fin _ _ _ R1.out P2.out Q2.out (permIn_refl _ _ _) h3
                    exact ⟨rfl, _, S1.out, this.1, this.2⟩
                  case pos =>
                    have g1z : decide ((mid : Int) < (en : Int)) = true := decide_eq_true (by omega)
                    by_cases g2 : en < b
                    case neg =>
                      have g2z : decide ((en : Int) < (b : Int)) = false := decide_eq_false (by omega)
                      have hno : ¬ (mid < en ∧ en < b) := fun h => g2 h.2
                      have h3 := MFX.out.n3 _ _ R1.out P2.out hno
                      go_wp2
                      go_end0
                      have := MFX.out.fin _ _ _ R1.out P2.out Q2.out (permIn_refl _ _ _) h3
                      exact ⟨rfl, _, S1.out, this.1, this.2⟩
                    case pos =>
                      have g2z : decide ((en : Int) < (b : Int)) = true := decide_eq_true (by omega)
                      have hcall := IH.out mid en b d2 _ (by omega) hz2 S1.out g1 g2 h3 (MFX.out.f2 _ _ R1.out P2.out).2.1 (MFX.out.f2 _ _ R1.out P2.out).2.2
                      clear S1
                      go_wp2_with (go_at_fn 117; refine hcall.mono ?_; rintro e w1 ⟨rfl, d3, S2, HS⟩)
                      go_end0
                      have := MFX.out.fin _ _ _ R1.out P2.out Q2.out HS.1 HS.2
                      exact ⟨rfl, d3, S2, this.1, this.2⟩
end Go.Proofs.Yteoonjnmghponaa.H
namespace Go.Proofs.Yteoonjnmghponaa.H
open Go.Shelf Go.RowKit Go.Lib Go.Sort Go.Proofs.YteoonjnmghponaaW.PrintWords Go.Proofs.YteoonjnmghponaaW.PrintLast Go.Proofs.YteoonjnmghponaaW.PrintMore
set_option linter.unusedVariables false
set_option linter.unusedSimpArgs false
section
variable {α : Type} [Inhabited α] {lt : α → α → Bool}
theorem gap {m x a : Nat} (hx : m ∣ x) (ha : m ∣ a) (h : x < a) : x + m ≤ a := by
  have := Nat.le_of_dvd (by omega) (Nat.dvd_sub ha hx)
  omega
theorem sorted_void {d : Array α} {x y : Nat} (h : y ≤ x + 1) : SortedIn lt x y d := fun i j h1 h2 h3 => by omega
theorem sorted_same {d d' : Array α} {a b x y : Nat} (h : SortedIn lt x y d) (hp : PermIn a b d d') (hd : y ≤ a ∨ b ≤ x) : SortedIn lt x y d' := SortedIn.congr h (fun t h1 h2 => hp.2.1 t (by omega))
/-- Every part of bs places that begins at a multiple of bs is in order. -/
def Runs (lt : α → α → Bool) (bs n : Nat) (d : Array α) : Prop := ∀ x, bs ∣ x → SortedIn lt x (min (x + bs) n) d
/-- Up to a the greater parts are in order, from there the lesser ones. -/
structure Half (lt : α → α → Bool) (bs n a : Nat) (d0 d : Array α) : Prop where
  dv : 2 * bs ∣ a
  le : a ≤ n
  lo : ∀ x, 2 * bs ∣ x → x + 2 * bs ≤ a → SortedIn lt x (x + 2 * bs) d
  hi : ∀ x, bs ∣ x → a ≤ x → SortedIn lt x (min (x + bs) n) d
  perm : PermIn 0 n d0 d
theorem Half.start {bs n : Nat} {d0 d : Array α} (h : Runs lt bs n d) (hb : 0 < bs) (hp : PermIn 0 n d0 d) : Half lt bs n 0 d0 d :=
  ⟨Nat.dvd_zero _, Nat.zero_le _, fun x _ hx => by omega, fun x hx _ => h x hx, hp⟩
theorem Half.left {bs n a : Nat} {d0 d : Array α} (h : Half lt bs n a d0 d) (hm : a + bs ≤ n) : SortedIn lt a (a + bs) d := by
  have := h.hi a (Nat.dvd_trans (Nat.dvd_mul_left bs 2) h.dv) (Nat.le_refl _)
  rw [Nat.min_eq_left hm] at this
  exact this
theorem Half.right {bs n a : Nat} {d0 d : Array α} (h : Half lt bs n a d0 d) : SortedIn lt (a + bs) (min (a + 2 * bs) n) d := by
  have := h.hi (a + bs) (Nat.dvd_add (Nat.dvd_trans (Nat.dvd_mul_left bs 2) h.dv) (Nat.dvd_refl bs)) (Nat.le_add_right _ _)
  rw [show a + bs + bs = a + 2 * bs by omega] at this
  exact this
theorem Half.step {bs n a : Nat} {d0 d d' : Array α} (h : Half lt bs n a d0 d) (hb : 0 < bs) (hn : n ≤ d0.size) (hm : a + 2 * bs ≤ n) (hp : PermIn a (a + 2 * bs) d d') (hs : SortedIn lt a (a + 2 * bs) d') : Half lt bs n (a + 2 * bs) d0 d' := by
  have hz := h.perm.1
  refine ⟨Nat.dvd_add h.dv (Nat.dvd_refl _), hm, fun x hx hxa => ?_, fun x hx hxa => ?_, permIn_trans _ _ _ _ _ h.perm (permIn_mono _ _ _ _ _ _ (Nat.zero_le _) hm (by omega) hp)⟩
  · rcases Nat.lt_or_ge x a with c | c
    · exact sorted_same (h.lo x hx (gap hx h.dv c)) hp (Or.inl (gap hx h.dv c))
    · have : x = a := by omega
      subst this
      exact hs
  · exact sorted_same (h.hi x hx (by omega)) hp (Or.inr hxa)
/-- The last, shorter part is in order too. -/
theorem Half.done {bs n a : Nat} {d0 d d' : Array α} (h : Half lt bs n a d0 d) (hb : 0 < bs) (hn : n ≤ d0.size) (hm : n < a + 2 * bs) (hp : PermIn a n d d') (hs : SortedIn lt a n d') : PermIn 0 n d0 d' ∧ Runs lt (2 * bs) n d' := by
  have hz := h.perm.1
  have hle := h.le
  refine ⟨permIn_trans _ _ _ _ _ h.perm (permIn_mono _ _ _ _ _ _ (Nat.zero_le _) (Nat.le_refl _) (by omega) hp), fun x hx => ?_⟩
  rcases Nat.lt_or_ge x a with c | c
  · have hg := gap hx h.dv c
    rw [Nat.min_eq_left (by omega)]
    exact sorted_same (h.lo x hx hg) hp (Or.inl hg)
  · rcases Nat.lt_or_ge a x with c' | c'
    · have hg := gap h.dv hx c'
      exact sorted_void (by omega)
    · have : x = a := by omega
      subst this
      rw [Nat.min_eq_right (by omega)]
      exact hs
/-- The first pass: up to a the parts of twenty are in order. -/
structure Ins (lt : α → α → Bool) (n a : Nat) (d0 d : Array α) : Prop where
  dv : 20 ∣ a
  le : a ≤ n
  lo : ∀ x, 20 ∣ x → x + 20 ≤ a → SortedIn lt x (x + 20) d
  perm : PermIn 0 n d0 d
theorem Ins.start (n : Nat) (d : Array α) : Ins lt n 0 d d := ⟨Nat.dvd_zero _, Nat.zero_le _, fun x _ h => by omega, permIn_refl _ _ _⟩
theorem Ins.step {n a : Nat} {d0 d d' : Array α} (h : Ins lt n a d0 d) (hn : n ≤ d0.size) (hm : a + 20 ≤ n) (hp : PermIn a (a + 20) d d') (hs : SortedIn lt a (a + 20) d') : Ins lt n (a + 20) d0 d' := by
  have hz := h.perm.1
  refine ⟨Nat.dvd_add h.dv (Nat.dvd_refl _), hm, fun x hx hxa => ?_, permIn_trans _ _ _ _ _ h.perm (permIn_mono _ _ _ _ _ _ (Nat.zero_le _) hm (by omega) hp)⟩
  rcases Nat.lt_or_ge x a with c | c
  · exact sorted_same (h.lo x hx (gap hx h.dv c)) hp (Or.inl (gap hx h.dv c))
  · have : x = a := by omega
    subst this
    exact hs
theorem Ins.done {n a : Nat} {d0 d d' : Array α} (h : Ins lt n a d0 d) (hn : n ≤ d0.size) (hm : n < a + 20) (hp : PermIn a n d d') (hs : SortedIn lt a n d') : PermIn 0 n d0 d' ∧ Runs lt 20 n d' := by
  have hz := h.perm.1
  have hle := h.le
  refine ⟨permIn_trans _ _ _ _ _ h.perm (permIn_mono _ _ _ _ _ _ (Nat.zero_le _) (Nat.le_refl _) (by omega) hp), fun x hx => ?_⟩
  rcases Nat.lt_or_ge x a with c | c
  · have hg := gap hx h.dv c
    rw [Nat.min_eq_left (by omega)]
    exact sorted_same (h.lo x hx hg) hp (Or.inl hg)
  · rcases Nat.lt_or_ge a x with c' | c'
    · have hg := gap h.dv hx c'
      exact sorted_void (by omega)
    · have : x = a := by omega
      subst this
      rw [Nat.min_eq_right (by omega)]
      exact hs
theorem Runs.all {bs n : Nat} {d : Array α} (h : Runs lt bs n d) (hb : n ≤ bs) : SortedIn lt 0 n d := by
  have := h 0 (Nat.dvd_zero _)
  rw [Nat.min_eq_right (by omega)] at this
  exact this
end
section
variable {α : Type} [Inhabited α] {enc : α → List Value}
set_option maxHeartbeats 4000000 in
set_option maxRecDepth 1000000 in
theorem stable_any {w0 w : World} {blk off cap sz : Nat} {d0 d : Array α} (R : RowK enc 5 w0 blk off d0) (hs0 : d0.size = sz) (hsz : sz < 1152921504606846976) (cf : α → α → Int) (hO : SWO (ltOf cf)) (g : Nat) (cb : Array Value) (eg : ∀ args w, (callFunc g args).run Try.prog w = .ok (.enter g args) w) (hcmp : CmpLays Try.prog g cb enc 5 cf blk off sz w0) (hz : d.size = sz) (S : SWK enc 5 w0 blk off d w) :
    Calls Try.prog 108 #[.slice (some ⟨blk, off, none⟩) sz cap, .int .i64 sz, .func (.func g) #[] cb] w fun e w' => e = .returned (.tuple #[]) ∧ ∃ d', SWK enc 5 w0 blk off d' w' ∧ PermIn 0 sz d d' ∧ SortedIn (ltOf cf) 0 sz d' := by
  have HI : Aside0 (∀ (a b : Nat) (dk : Array α) (wr : World), dk.size = sz → SWK enc 5 w0 blk off dk wr → a ≤ b → b ≤ sz → Calls Try.prog 116 #[.slice (some ⟨blk, off, none⟩) sz cap, .int .i64 a, .int .i64 b, .func (.func g) #[] cb] wr fun e w' => e = .returned (.tuple #[]) ∧ ∃ d', SWK enc 5 w0 blk off d' w' ∧ PermIn a b dk d' ∧ SortedIn (ltOf cf) a b d') := ⟨fun a b dk wr hd hS hab hb => by
    have h := AnyQ.insertionSortCmpFunc_w (P := Try.prog) (ρ := Try.insE_ren) Try.insE 5 Try.isAgg137 Try.sizeOf137 enc cf g cb blk off cap a b d0 dk w0 wr eg (by rw [hs0]; exact hcmp) R (by omega) hS hO hab (by omega) (by omega)
    rw [hd] at h
    have h2 := insertionSort_holds hO dk a b hab (by omega)
    exact h.mono fun e w' ⟨he, hs⟩ => ⟨he, _, hs, h2.1, h2.2⟩⟩
  have HM : Aside0 (∀ (a m b : Nat) (dk : Array α) (wr : World), dk.size = sz → SWK enc 5 w0 blk off dk wr → a < m → m < b → b ≤ sz → SortedIn (ltOf cf) a m dk → SortedIn (ltOf cf) m b dk → Calls Try.prog 117 #[.slice (some ⟨blk, off, none⟩) sz cap, .int .i64 a, .int .i64 m, .int .i64 b, .func (.func g) #[] cb] wr (SymPost enc 5 w0 blk off cf a b dk)) :=
    ⟨fun a m b dk wr hd hS h1 h2 h3 s1 s2 => symMerge_any lays R hs0 (by omega) cf hO g cb eg hcmp (b - a) a m b dk wr (Nat.le_refl _) hd hS h1 h2 h3 s1 s2⟩
  have S0 : Aside _ := S
  have I0 : Aside0 (Ins (ltOf cf) sz 0 d d) := ⟨Ins.start sz d⟩
  have HZ : Aside0 (sz ≤ d.size) := ⟨by omega⟩
  clear S hcmp
  go_enter Try.func108, Try.ntmps108
  go_wp2
  go_loopg [7, 8] sz (fun kx s7 s8 wr => ∃ (a : Nat) (dk : Array α), s7 = .int .i64 a ∧ s8 = .int .i64 ((a : Int) + 20) ∧ a ≤ sz ∧ sz - a ≤ kx ∧ Aside (SWK enc 5 w0 blk off dk wr) ∧ Aside0 (Ins (ltOf cf) sz a d dk))
  case atStart => exact ⟨0, d, rfl, rfl, Nat.zero_le _, by omega, S0, I0⟩
  case round =>
    clear S0 I0
    obtain ⟨a, dk, rfl, rfl, ha, hkx, S1, HIn⟩ := hrel
    have hdk : dk.size = sz := HIn.out.perm.1.trans hz
    by_cases hb : a + 20 ≤ sz
    · have hbz : (a : Int) + 20 ≤ (sz : Int) := by omega
      have hcall := HI.out a (a + 20) dk _ hdk S1.out (by omega) hb
      rw [show ((a + 20 : Nat) : Int) = (a : Int) + 20 by omega] at hcall
      clear S1
      go_wp2_with (go_at_call 116; refine Calls.mono hcall ?_; rintro e w1 ⟨rfl, d2, S9, hP⟩)
      have S2 : Aside _ := S9
      go_roundg (sz - (a + 20))
      case measure => omega
      case rel => exact ⟨a + 20, d2, by go_num, by go_num, hb, Nat.le_refl _, S2, ⟨HIn.out.step HZ.out hb hP.1 hP.2⟩⟩
    · have hbz : ¬ (a : Int) + 20 ≤ (sz : Int) := by omega
      have hcall := HI.out a sz dk _ hdk S1.out ha (Nat.le_refl _)
      clear S1
      go_wp2_with (go_at_call 116; refine Calls.mono hcall ?_; rintro e w1 ⟨rfl, d2, S9, hP⟩)
      have S2 : Aside _ := S9
      have R0 := Aside0.mk (HIn.out.done HZ.out (by omega) hP.1 hP.2)
      clear S9 hP hcall HIn hbz hb ha hkx
      go_loopg [6, 7, 8, 9] sz (fun kx s6 s7 s8 s9 wr => ∃ (bs : Nat) (dk : Array α), s6 = .int .i64 bs ∧ 20 ≤ bs ∧ sz - bs ≤ kx ∧ Aside (SWK enc 5 w0 blk off dk wr) ∧ Aside0 (PermIn 0 sz d dk ∧ Runs (ltOf cf) bs sz dk))
      case atStart => exact ⟨20, d2, rfl, Nat.le_refl _, by omega, S2, R0⟩
      case round =>
        clear S2 R0
        obtain ⟨bs, dk, rfl, hbs, hkx, S1, HR⟩ := hrel
        by_cases hlt : bs < sz
        · have hltz : (bs : Int) < (sz : Int) := by omega
          have H0 : Aside0 (Half (ltOf cf) bs sz 0 d dk) := ⟨Half.start HR.out.2 (by omega) HR.out.1⟩
          clear HR
          go_wp2
          go_loopg [7, 8] sz (fun kx s7 s8 wr => ∃ (a : Nat) (dk : Array α), s7 = .int .i64 a ∧ s8 = .int .i64 ((a : Int) + 2 * (bs : Int)) ∧ a ≤ sz ∧ sz - a ≤ kx ∧ Aside (SWK enc 5 w0 blk off dk wr) ∧ Aside0 (Half (ltOf cf) bs sz a d dk))
          case atStart => exact ⟨0, dk, rfl, by first | rfl | go_num | (congr 1; omega), Nat.zero_le _, by omega, S1, H0⟩
          case round =>
            clear S1 H0
            obtain ⟨a, dk, rfl, rfl, ha, hka, S1, HH⟩ := hrel
            have hdk : dk.size = sz := HH.out.perm.1.trans hz
            by_cases hb : a + 2 * bs ≤ sz
            · have hbz : (a : Int) + 2 * (bs : Int) ≤ (sz : Int) := by omega
              have hright := HH.out.right
              rw [Nat.min_eq_left hb] at hright
              have hcall := HM.out a (a + bs) (a + 2 * bs) dk _ hdk S1.out (by omega) (by omega) hb (HH.out.left (by omega)) hright
              rw [show ((a + bs : Nat) : Int) = (a : Int) + (bs : Int) by omega, show ((a + 2 * bs : Nat) : Int) = (a : Int) + 2 * (bs : Int) by omega] at hcall
              clear S1 hright
              go_wp2_with (go_at_call 117; refine Calls.mono hcall ?_; rintro e w1 ⟨rfl, d2, S9, hP⟩)
              have S2 : Aside _ := S9
              go_roundg (sz - (a + 2 * bs))
              case measure => omega
              case rel => exact ⟨a + 2 * bs, d2, by first | rfl | go_num | (congr 1; omega), by first | rfl | go_num | (congr 1; omega), hb, Nat.le_refl _, S2, ⟨HH.out.step (by omega) HZ.out hb hP.1 hP.2⟩⟩
            · have hbz : ¬ (a : Int) + 2 * (bs : Int) ≤ (sz : Int) := by omega
              by_cases hm : a + bs < sz
              · have hmz : (a : Int) + (bs : Int) < (sz : Int) := by omega
                have hright := HH.out.right
                rw [Nat.min_eq_right (by omega)] at hright
                have hcall := HM.out a (a + bs) sz dk _ hdk S1.out (by omega) hm (Nat.le_refl _) (HH.out.left (by omega)) hright
                rw [show ((a + bs : Nat) : Int) = (a : Int) + (bs : Int) by omega] at hcall
                clear S1 hright
                go_wp2_with (go_at_call 117; refine Calls.mono hcall ?_; rintro e w1 ⟨rfl, d2, S9, hP⟩)
                have S2 : Aside _ := S9
                go_roundg (sz - bs * 2)
                case measure => omega
                case rel => exact ⟨bs * 2, d2, by first | rfl | go_num | (congr 1; omega), by omega, Nat.le_refl _, S2, ⟨by have h := HH.out.done (by omega) HZ.out (by omega) hP.1 hP.2; rw [Nat.mul_comm bs 2]; exact h⟩⟩
              · have hmz : ¬ (a : Int) + (bs : Int) < (sz : Int) := by omega
                go_wp2
                go_roundg (sz - bs * 2)
                case measure => omega
                case rel => exact ⟨bs * 2, dk, by first | rfl | go_num | (congr 1; omega), by omega, Nat.le_refl _, S1, ⟨by
                  have h1 := HH.out.hi a (Nat.dvd_trans (Nat.dvd_mul_left bs 2) HH.out.dv) (Nat.le_refl _)
                  rw [Nat.min_eq_right (by omega)] at h1
                  have h := HH.out.done (by omega) HZ.out (by omega) (permIn_refl _ _ _) h1
                  rw [Nat.mul_comm bs 2]
                  exact h⟩⟩
        · have hltz : ¬ (bs : Int) < (sz : Int) := by omega
          go_wp2
          go_end0
          exact ⟨rfl, dk, S1.out, HR.out.1, Runs.all HR.out.2 (by omega)⟩
set_option maxHeartbeats 1000000 in
theorem sortStable_any {w0 : World} {blk off cap sz : Nat} {d0 : Array α} (R : RowK enc 5 w0 blk off d0) (hs0 : d0.size = sz) (hsz : sz < 1152921504606846976) (cf : α → α → Int) (hO : SWO (ltOf cf)) (g : Nat) (cb : Array Value) (eg : ∀ args w, (callFunc g args).run Try.prog w = .ok (.enter g args) w) (hcmp : CmpLays Try.prog g cb enc 5 cf blk off sz w0) :
    Calls Try.prog 90 #[.slice (some ⟨blk, off, none⟩) sz cap, .func (.func g) #[] cb] w0 fun e w' => e = .returned (.tuple #[]) ∧ ∃ d', SWK enc 5 w0 blk off d' w' ∧ PermIn 0 sz d0 d' ∧ SortedIn (ltOf cf) 0 sz d' := by
  have hcall := stable_any (cap := cap) R hs0 hsz cf hO g cb eg hcmp hs0 (SWK.start R.hH)
  clear hcmp
  go_enter Try.func90, Try.ntmps90
  go_wp2_with (go_at_call 108; refine Calls.mono hcall ?_; rintro e w1 ⟨rfl, d2, S9, hP⟩)
  go_end0
  exact ⟨rfl, d2, S9, hP⟩
end
end Go.Proofs.Yteoonjnmghponaa.H
