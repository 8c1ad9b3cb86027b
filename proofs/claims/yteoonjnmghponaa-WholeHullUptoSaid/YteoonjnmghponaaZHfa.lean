/- Package raster: edges and crossings as rows of structs; what edges are, in plain Lean. Package raster: edges and crossings sorted, walked. Package raster: edges, walked. -/
import Derived.Test.YteoonjnmghponaaZHda
import Derived.Test.YteoonjnmghponaaZHea
import Derived.Test.YteoonjnmghponaaZWha
namespace Go.Proofs.Yteoonjnmghponaa.H
open Go.RowKit Go.Proofs.Yteoonjnmghponaa.F Go.Proofs.YteoonjnmghponaaW.PrintWords Go.Proofs.YteoonjnmghponaaW.PrintLast Go.Proofs.YteoonjnmghponaaW.PrintMore
set_option linter.unusedVariables false
set_option linter.unusedSimpArgs false
theorem info137 : (Try.prog.info? 137).map (fun i => (i.zero, i.size, i.bytes)) = some (some (.agg #[(.int .i64 0), (.int .i64 0), (.int .i64 0), (.int .i64 0), (.int .i64 0)]), 5, 40) := by kernel_rfl
theorem info144 : (Try.prog.info? 144).map (fun i => (i.zero, i.size, i.bytes)) = some (some (.agg #[(.int .i64 0), (.int .i64 0)]), 2, 16) := by kernel_rfl
/-- An edge. -/
structure S137 where
  f0 : Int
  f1 : Int
  f2 : Int
  f3 : Int
  f4 : Int
deriving DecidableEq
def z137 : S137 := ⟨(0 : Int), (0 : Int), (0 : Int), (0 : Int), (0 : Int)⟩
instance : Inhabited S137 := ⟨z137⟩
def k137 : Kd S137 := Kd.iso (Kd.pair (Kd.int .i64) (Kd.pair (Kd.int .i64) (Kd.pair (Kd.int .i64) (Kd.pair (Kd.int .i64) (Kd.int .i64))))) (fun x : S137 => (x.f0, x.f1, x.f2, x.f3, x.f4))
def e137 (x : S137) : List Value := [.int .i64 x.f0, .int .i64 x.f1, .int .i64 x.f2, .int .i64 x.f3, .int .i64 x.f4]
theorem k137_open {w : World} {x : S137} {cs : List Value} (h : k137.K w x cs) : cs = e137 x := by
  obtain ⟨_, _, rfl, rfl, ⟨_, _, rfl, rfl, ⟨_, _, rfl, rfl, ⟨_, _, rfl, rfl, rfl⟩⟩⟩⟩ := h
  exact rfl
theorem k137_openM {w : World} {base : Nat} {ok : Nat → Prop} {x : S137} {cs : List Value} (h : k137.M w base ok x cs) : cs = e137 x := by
  obtain ⟨_, _, rfl, rfl, ⟨_, _, rfl, rfl, ⟨_, _, rfl, rfl, ⟨_, _, rfl, rfl, rfl⟩⟩⟩⟩ := h
  exact rfl
theorem k137_mk (w : World) (x : S137) : k137.K w x (e137 x) := ⟨[.int .i64 x.f0], [.int .i64 x.f1, .int .i64 x.f2, .int .i64 x.f3, .int .i64 x.f4], rfl, rfl, ⟨[.int .i64 x.f1], [.int .i64 x.f2, .int .i64 x.f3, .int .i64 x.f4], rfl, rfl, ⟨[.int .i64 x.f2], [.int .i64 x.f3, .int .i64 x.f4], rfl, rfl, ⟨[.int .i64 x.f3], [.int .i64 x.f4], rfl, rfl, rfl⟩⟩⟩⟩
theorem k137_mkM (w : World) (base : Nat) (ok : Nat → Prop) (x : S137) : k137.M w base ok x (e137 x) := ⟨[.int .i64 x.f0], [.int .i64 x.f1, .int .i64 x.f2, .int .i64 x.f3, .int .i64 x.f4], rfl, rfl, ⟨[.int .i64 x.f1], [.int .i64 x.f2, .int .i64 x.f3, .int .i64 x.f4], rfl, rfl, ⟨[.int .i64 x.f2], [.int .i64 x.f3, .int .i64 x.f4], rfl, rfl, ⟨[.int .i64 x.f3], [.int .i64 x.f4], rfl, rfl, rfl⟩⟩⟩⟩
theorem at_T137 {w : World} {A : Option Addr} {n : Nat} {xs : List S137} (h : Kd.C k137 w A n xs) (i : Int) (h0 : 0 ≤ i) (h1 : i < n) : ∃ ad, A = some ad ∧ w.cell? (ad.add (i.toNat * 5)) = some (.int .i64 (xs.getD i.toNat z137).f0) ∧ w.cell? ⟨(ad.add (i.toNat * 5)).block, (ad.add (i.toNat * 5)).off + 1, none⟩ = some (.int .i64 (xs.getD i.toNat z137).f1) ∧ w.cell? ⟨(ad.add (i.toNat * 5)).block, (ad.add (i.toNat * 5)).off + 2, none⟩ = some (.int .i64 (xs.getD i.toNat z137).f2) ∧ w.cell? ⟨(ad.add (i.toNat * 5)).block, (ad.add (i.toNat * 5)).off + 3, none⟩ = some (.int .i64 (xs.getD i.toNat z137).f3) ∧ w.cell? ⟨(ad.add (i.toNat * 5)).block, (ad.add (i.toNat * 5)).off + 4, none⟩ = some (.int .i64 (xs.getD i.toNat z137).f4) := by
  obtain ⟨ad, c, e, _, hK, hc0⟩ := Kd.C_get h z137 i h0 h1
  have hc : ∀ j u, c[j]? = some u → w.cell? (ad.add (i.toNat * 5 + j)) = some u := hc0
  obtain rfl := k137_open hK
  exact ⟨ad, e, hc 0 _ rfl, by rw [← add_field _ _ 1 (by omega)]; exact hc 1 _ rfl, by rw [← add_field _ _ 2 (by omega)]; exact hc 2 _ rfl, by rw [← add_field _ _ 3 (by omega)]; exact hc 3 _ rfl, by rw [← add_field _ _ 4 (by omega)]; exact hc 4 _ rfl⟩
/-- A crossing. -/
structure S144 where
  f0 : Int
  f1 : Int
deriving DecidableEq
def z144 : S144 := ⟨(0 : Int), (0 : Int)⟩
instance : Inhabited S144 := ⟨z144⟩
def k144 : Kd S144 := Kd.iso (Kd.pair (Kd.int .i64) (Kd.int .i64)) (fun x : S144 => (x.f0, x.f1))
def e144 (x : S144) : List Value := [.int .i64 x.f0, .int .i64 x.f1]
theorem k144_open {w : World} {x : S144} {cs : List Value} (h : k144.K w x cs) : cs = e144 x := by
  obtain ⟨_, _, rfl, rfl, rfl⟩ := h
  exact rfl
theorem k144_openM {w : World} {base : Nat} {ok : Nat → Prop} {x : S144} {cs : List Value} (h : k144.M w base ok x cs) : cs = e144 x := by
  obtain ⟨_, _, rfl, rfl, rfl⟩ := h
  exact rfl
theorem k144_mk (w : World) (x : S144) : k144.K w x (e144 x) := ⟨[.int .i64 x.f0], [.int .i64 x.f1], rfl, rfl, rfl⟩
theorem k144_mkM (w : World) (base : Nat) (ok : Nat → Prop) (x : S144) : k144.M w base ok x (e144 x) := ⟨[.int .i64 x.f0], [.int .i64 x.f1], rfl, rfl, rfl⟩
theorem at_T144 {w : World} {A : Option Addr} {n : Nat} {xs : List S144} (h : Kd.C k144 w A n xs) (i : Int) (h0 : 0 ≤ i) (h1 : i < n) : ∃ ad, A = some ad ∧ w.cell? (ad.add (i.toNat * 2)) = some (.int .i64 (xs.getD i.toNat z144).f0) ∧ w.cell? ⟨(ad.add (i.toNat * 2)).block, (ad.add (i.toNat * 2)).off + 1, none⟩ = some (.int .i64 (xs.getD i.toNat z144).f1) := by
  obtain ⟨ad, c, e, _, hK, hc0⟩ := Kd.C_get h z144 i h0 h1
  have hc : ∀ j u, c[j]? = some u → w.cell? (ad.add (i.toNat * 2 + j)) = some u := hc0
  obtain rfl := k144_open hK
  exact ⟨ad, e, hc 0 _ rfl, by rw [← add_field _ _ 1 (by omega)]; exact hc 1 _ rfl⟩
/-! ### what edges are -/
def ed (a b : S30) : List S137 := if a.f1 < b.f1 then [⟨a.f0, a.f1, b.f0, b.f1, 1⟩] else if b.f1 < a.f1 then [⟨b.f0, b.f1, a.f0, a.f1, -1⟩] else []
def vx (c : List S30) (i : Nat) : S30 := c.getD (i % c.length) z30
def rowF (c : List S30) (i : Nat) (acc : List S137) : List S137 := (List.range' i (c.length - i)).foldl (fun acc i => acc ++ ed (vx c i) (vx c (i + 1))) acc
def edgesOf (xs : List (List S30)) (acc : List S137) : List S137 := xs.foldl (fun acc c => rowF c 0 acc) acc
theorem rowF_step {c : List S30} {i : Nat} (h : i < c.length) (acc : List S137) : rowF c i acc = rowF c (i + 1) (acc ++ ed (vx c i) (vx c (i + 1))) := by
  unfold rowF
  rw [show c.length - i = (c.length - (i + 1)) + 1 by omega, List.range'_succ, List.foldl_cons]
theorem rowF_done (c : List S30) (acc : List S137) : rowF c c.length acc = acc := by
  unfold rowF
  rw [Nat.sub_self]
  rfl
/-- What holds of the edges of one list and of what follows. -/
theorem rowF_ind {P : List S137 → Prop} {c : List S30} (hs : ∀ i acc, i < c.length → P acc → P (acc ++ ed (vx c i) (vx c (i + 1)))) : ∀ n i acc, c.length - i = n → i ≤ c.length → P acc → P (rowF c i acc)
  | 0, i, acc, hn, hi, hp => by
    have e : i = c.length := by omega
    rw [e, rowF_done]
    exact hp
  | n + 1, i, acc, hn, hi, hp => by
    rw [rowF_step (by omega)]
    exact rowF_ind hs n (i + 1) _ (by omega) (by omega) (hs i acc (by omega) hp)
theorem vx_mem {c : List S30} {i : Nat} (h : 0 < c.length) : vx c i ∈ c := by
  unfold vx
  have hm := Nat.mod_lt i h
  rw [List.getD_eq_getElem?_getD, List.getElem?_eq_getElem hm]
  exact List.getElem_mem hm
/-- An edge of a polygon in a box. -/
structure EOk (B : Bx) (e : S137) : Prop where
  a : InS B e.f0 e.f1
  b : InS B e.f2 e.f3
  up : e.f1 < e.f3
  by_ : e.f4 = 1 ∨ e.f4 = -1
theorem ed_ok {B : Bx} {a b : S30} (ha : InS B a.f0 a.f1) (hb : InS B b.f0 b.f1) : ∀ e ∈ ed a b, EOk B e := by
  intro e he
  unfold ed at he
  split at he
  · rw [List.mem_singleton.1 he]
    exact ⟨ha, hb, by assumption, .inl rfl⟩
  · split at he
    · rw [List.mem_singleton.1 he]
      exact ⟨hb, ha, by assumption, .inr rfl⟩
    · cases he
theorem ed_len (a b : S30) : (ed a b).length ≤ 1 := by
  unfold ed
  repeat' split
  all_goals simp
theorem edges_ind {P : List S137 → Prop} : ∀ (xs : List (List S30)) (acc : List S137), (∀ c ∈ xs, ∀ acc, P acc → P (rowF c 0 acc)) → P acc → P (edgesOf xs acc)
  | [], acc, _, hp => hp
  | c :: r, acc, h, hp => edges_ind (P := P) r (rowF c 0 acc) (fun d hd => h d (List.mem_cons_of_mem _ hd)) (h c (List.mem_cons_self ..) acc hp)
theorem edges_ok {B : Bx} {xs : List (List S30)} (h : ∀ c ∈ xs, ∀ s ∈ c, InS B s.f0 s.f1) : ∀ e ∈ edgesOf xs [], EOk B e := by
  refine edges_ind (P := fun l => ∀ e ∈ l, EOk B e) xs [] (fun c hc acc hp => ?_) (by simp)
  refine rowF_ind (P := fun l => ∀ e ∈ l, EOk B e) (fun i acc hi hp e he => ?_) _ 0 acc rfl (Nat.zero_le _) hp
  rcases List.mem_append.1 he with h1 | h1
  · exact hp e h1
  · exact ed_ok (h c hc _ (vx_mem (by omega))) (h c hc _ (vx_mem (by omega))) e h1
theorem rowF_len {c : List S30} {acc : List S137} : ∀ n i acc, c.length - i = n → i ≤ c.length → (rowF c i acc).length ≤ acc.length + n
  | 0, i, acc, hn, hi => by
    have e : i = c.length := by omega
    rw [e, rowF_done]
    omega
  | n + 1, i, acc, hn, hi => by
    rw [rowF_step (by omega)]
    have := rowF_len (c := c) (acc := acc) n (i + 1) (acc ++ ed (vx c i) (vx c (i + 1))) (by omega) (by omega)
    have := ed_len (vx c i) (vx c (i + 1))
    rw [List.length_append] at *
    omega
theorem edges_len {m : Nat} : ∀ (xs : List (List S30)) (acc : List S137), (∀ c ∈ xs, c.length ≤ m) → (edgesOf xs acc).length ≤ acc.length + m * xs.length
  | [], acc, _ => by simp [edgesOf]
  | c :: r, acc, h => by
    have h1 := edges_len r (rowF c 0 acc) (fun d hd => h d (List.mem_cons_of_mem _ hd))
    have h2 := rowF_len (c := c) (acc := acc) c.length 0 acc (by omega) (Nat.zero_le _)
    have h3 := h c (List.mem_cons_self ..)
    rw [List.length_cons, Nat.mul_succ]
    show (edgesOf r (rowF c 0 acc)).length ≤ _
    omega
/-! ### the windings of a row end at 0 -/
def wj (j : Int) (l : List S137) : Int := (l.map fun e => if e.f1 ≤ j ∧ j < e.f3 then e.f4 else 0).sum
def ind (j : Int) (s : S30) : Int := if s.f1 ≤ j then 1 else 0
theorem wj_append (j : Int) (l m : List S137) : wj j (l ++ m) = wj j l + wj j m := by
  unfold wj
  rw [List.map_append, List.sum_append]
theorem wj_ed (j : Int) (a b : S30) : wj j (ed a b) = ind j a - ind j b := by
  unfold wj ed ind
  repeat' split
  all_goals simp
  all_goals (repeat' split)
  all_goals omega
theorem wj_rowF (j : Int) {c : List S30} : ∀ n i acc, c.length - i = n → i ≤ c.length → wj j (rowF c i acc) = wj j acc + ind j (vx c i) - ind j (vx c c.length)
  | 0, i, acc, hn, hi => by
    have e : i = c.length := by omega
    rw [e, rowF_done]
    omega
  | n + 1, i, acc, hn, hi => by
    rw [rowF_step (by omega), wj_rowF j n (i + 1) _ (by omega) (by omega), wj_append, wj_ed]
    omega
theorem wj_edges (j : Int) (xs : List (List S30)) : wj j (edgesOf xs []) = 0 := by
  refine edges_ind (P := fun l => wj j l = 0) xs [] (fun c hc acc hp => ?_) rfl
  rw [wj_rowF j c.length 0 acc (by omega) (Nat.zero_le _), hp]
  have : vx c 0 = vx c c.length := by unfold vx; rw [Nat.zero_mod, Nat.mod_self]
  rw [this]
  omega
end Go.Proofs.Yteoonjnmghponaa.H
namespace Go.Proofs.Yteoonjnmghponaa.H
open Go.RowKit Go.Proofs.Yteoonjnmghponaa.F Go.Proofs.YteoonjnmghponaaW.PrintWords Go.Proofs.YteoonjnmghponaaW.PrintLast Go.Proofs.YteoonjnmghponaaW.PrintMore
set_option linter.unusedVariables false
set_option linter.unusedSimpArgs false
theorem sortWorld_blk {α : Type} [Inhabited α] (enc : α → List Value) (k : Nat) {W : World} {g m : Nat} {d' : Array α} {os : Array Obj} {cur : Array Value} {e : TypeId} (h : W.heap[g]? = some (.cells cur e (0, 0))) :
    ∃ cur', (sortWorldK enc k W g 0 m d' os).heap[g]? = some (.cells cur' e (0, 0)) ∧ cur'.size = cur.size := by
  have hg := blk_lt h
  unfold sortWorldK Sort.putRowK Sort.putRow
  rw [Sort.heap_grow_old _ _ (by simpa [Sort.mapBlock] using hg)]
  refine ⟨Sort.putCells id 0 (Sort.flatK enc k d') cur, ?_, by simp [Sort.putCells]⟩
  show ((Sort.ahead W m).heap.modify g _)[g]? = _
  rw [Array.getElem?_modify, if_pos rfl]
  show (W.heap[g]?).map _ = _
  rw [h]
  rfl
theorem sortWorld_far {α : Type} [Inhabited α] (enc : α → List Value) (k : Nat) {W : World} {g m : Nat} {d' : Array α} {os : Array Obj} (j : Nat) (hj : j < W.heap.size) (hne : j ≠ g) : (sortWorldK enc k W g 0 m d' os).heap[j]? = W.heap[j]? := by
  unfold sortWorldK Sort.putRowK Sort.putRow
  rw [Sort.heap_grow_old _ _ (by simpa [Sort.mapBlock] using hj)]
  show ((Sort.ahead W m).heap.modify g _)[j]? = _
  rw [Array.getElem?_modify, if_neg (by omega)]
  rfl
theorem sortWorld_grown {α : Type} [Inhabited α] (enc : α → List Value) (k : Nat) {W : World} {g m : Nat} {d' : Array α} {os : Array Obj} : W.grownBy (sortWorldK enc k W g 0 m d' os) (some g) :=
  ⟨rfl, rfl, rfl, by
    unfold sortWorldK
    rw [Sort.size_grow, Sort.size_putRowK]
    exact Nat.le_add_right _ _, fun j hj hne => sortWorld_far enc k j hj (fun e => hne (by rw [e]))⟩
/-- A row of one's own behind a sort: of one's own. -/
theorem sorted_back {α β : Type} [Inhabited α] (d : Kd β) (dec : α → β) (enc : α → List Value) (hk : ∀ x, (enc x).length = d.sz) (hM : ∀ w base ok x, d.M w base ok (dec x) (enc x)) {W : World} {g n cap e base m : Nat} {ok : Nat → Prop} {xs : List β} {d0 d' : Array α} {os : Array Obj}
    (h : d.R e W base ok (.slice (some ⟨g, 0, none⟩) n cap) xs) (hH : Sort.HoldsK enc d.sz W g 0 d0) (hn : d0.size = n) (hs : d'.size = d0.size) (hg : g < W.heap.size) :
    d.R e (sortWorldK enc d.sz W g 0 m d' os) base ok (.slice (some ⟨g, 0, none⟩) n cap) (d'.toList.map dec) := by
  obtain ⟨hok, inner, ho, hr⟩ := h
  have hlen : d'.toList.map dec = d'.toList.map dec := rfl
  have hl : (d'.toList.map dec).length = n := by simp [hs, hn]
  obtain ⟨ho1, ho2⟩ := ho
  rcases ho2 with ⟨hv, _⟩ | ⟨g', cap', cur, hv, hb, hh, hnc, hcm, hcs, ht⟩
  · cases hv
  injection hv with ha hx hc
  injection ha with ha
  injection ha with hgg
  subst hgg; subst hc
  obtain ⟨cur', hh', hcs'⟩ := sortWorld_blk enc d.sz (m := m) (d' := d') (os := os) hh
  have hH' := holdsK_sortWorldK_c enc d.sz W g 0 d0 d' m os hH hg hs
  have hnn : n ≤ cap := by rw [hx]; exact hnc
  have hfit : n * d.sz ≤ cur'.size := by
    rw [hcs', hcs]
    exact Nat.mul_le_mul_right _ hnn
  have hcell : ∀ j c, j < n → c < d.sz → cur'[j * d.sz + c]? = some (enc d'[j]!)[c]! := fun j c hj hc => by
    have h1 := (Sort.HoldsK.cell hH' (i := j) (c := c) (by omega) hc).1
    rw [Nat.zero_add, blk_cell hh'] at h1
    exact h1
  refine ⟨hok, cur'.toList.take (n * d.sz), ⟨?_, .inr ⟨g, cap, cur', by rw [hl], hb, hh', by rw [hl]; exact hnn, hcm, by rw [hcs', hcs], by rw [hl]⟩⟩, ?_, fun j p hp => ?_⟩
  · rw [List.length_take, hl, Array.length_toList]
    omega
  · rw [List.length_take, hl, Array.length_toList]
    omega
  · have hj : j < d'.size := by
      have := (List.getElem?_eq_some_iff.mp hp).1
      simpa using this
    have hp2 : p = dec d'[j]! := by
      rw [List.getElem?_map, Array.getElem?_toList, Array.getElem?_eq_getElem hj] at hp
      rw [getElem!_pos _ j hj]
      simpa using hp.symm
    have hjn : j < n := by omega
    have hle : (j + 1) * d.sz ≤ n * d.sz := Nat.mul_le_mul_right _ (by omega)
    rw [Nat.add_mul, Nat.one_mul] at hle
    have he : ((cur'.toList.take (n * d.sz)).drop (j * d.sz)).take d.sz = enc d'[j]! := by
      apply List.ext_getElem?
      intro c
      rw [List.getElem?_take]
      by_cases hc : c < d.sz
      · rw [if_pos hc, List.getElem?_drop, List.getElem?_take, if_pos (by omega), Array.getElem?_toList, hcell j c hjn hc]
        rw [List.getElem?_eq_getElem (by rw [hk]; exact hc), getElem!_pos _ c (by rw [hk]; exact hc)]
      · rw [if_neg hc, List.getElem?_eq_none (by rw [hk]; omega)]
    rw [he, hp2]
    exact hM _ _ _ _
theorem perm_list {α : Type} [Inhabited α] {d d' : Array α} {n : Nat} (h : Sort.PermIn 0 n d d') (hn : d.size = n) : d'.toList.Perm d.toList := by
  have h1 := h.2.2
  have e1 : d.extract 0 n = d := by subst hn; simp
  have e2 : d'.extract 0 n = d' := by rw [← hn, ← h.1]; simp
  rw [e1, e2] at h1
  exact h1
theorem sorted_list {α β : Type} [Inhabited α] {d' : Array α} {n : Nat} {lt : α → α → Bool} {dec : α → β} {r : β → β → Prop} (h : Sort.SortedIn lt 0 n d') (hn : d'.size = n) (hr : ∀ x y, lt y x = false → r (dec x) (dec y)) : (d'.toList.map dec).Pairwise r := by
  rw [List.pairwise_map, List.pairwise_iff_getElem]
  intro i j hi hj hij
  have hi' : i < d'.size := by simpa using hi
  have hj' : j < d'.size := by simpa using hj
  have := h i j (Nat.zero_le _) hij (by omega)
  rw [getElem!_pos _ i hi', getElem!_pos _ j hj'] at this
  simpa using hr _ _ this
theorem row_cell {β : Type} {d : Kd β} {enc : β → List Value} {z : β} (hM : ∀ {w base ok x cs}, d.M w base ok x cs → cs = enc x) {e W base ok g n cap} {xs : List β} (hr : d.R e W base ok (.slice (some ⟨g, 0, none⟩) n cap) xs) (i : Nat) (hi : i < xs.length) (c : Nat) (hc : c < d.sz) :
    W.cell? ⟨g, i * d.sz + c, none⟩ = some ((enc xs[i])[c]!) ∧ W.frozen? ⟨g, i * d.sz + c, none⟩ = false := by
  have hnx := (Kd.R_reads' hr).1
  obtain ⟨cs, hl, hm, h1, h2⟩ := Kd.R_elem hr z i (by omega) (by omega)
  have e := hM hm
  have hg : xs.getD (Int.toNat i) z = xs[i] := by
    rw [List.getD_eq_getElem?_getD, Int.toNat_natCast, List.getElem?_eq_getElem hi]
    rfl
  rw [hg] at e
  have h3 := h2 c
  rw [Int.toNat_natCast] at h3
  refine ⟨?_, h3⟩
  have hc2 : c < cs.length := by omega
  have := h1 c _ (List.getElem?_eq_getElem hc2)
  rw [Int.toNat_natCast] at this
  rw [this]
  subst e
  rw [getElem!_pos _ c hc2]
/-! ### edges -/
abbrev ER : Type := {p : S137 // -16777216 ≤ p.f1 ∧ p.f1 ≤ 16777216}
instance : Inhabited ER := ⟨⟨z137, by decide⟩⟩
def encE (x : ER) : List Value := e137 x.1
def cfE (x y : ER) : Int := x.1.f1 - y.1.f1
theorem ltE (x y : ER) : ltOf cfE x y = decide (x.1.f1 < y.1.f1) := by
  unfold ltOf cfE
  exact decide_eq_decide.mpr (by omega)
theorem swoE : Sort.SWO (ltOf cfE) where
  irrefl x := by rw [ltE]; simp
  trans x y z h1 h2 := by rw [ltE] at *; simp at *; omega
  ntrans x y z h1 h2 := by rw [ltE] at *; simp at *; omega
set_option maxHeartbeats 1000000 in
theorem closeE (x y : ER) (W : World) : Calls Try.prog 91 #[.agg (encE x).toArray, .agg (encE y).toArray] W fun e w' => e = .returned (.int .i64 (cfE x y)) ∧ ∃ q os', w' = Sort.grow (W.drewN q) os' := by
  obtain ⟨⟨a0, a1, a2, a3, a4⟩, hx⟩ := x
  obtain ⟨⟨b0, b1, b2, b3, b4⟩, hy⟩ := y
  unfold encE cfE e137
  dsimp only at hx hy ⊢
  show Calls Try.prog _ #[.agg #[.int .i64 a0, .int .i64 a1, .int .i64 a2, .int .i64 a3, .int .i64 a4], .agg #[.int .i64 b0, .int .i64 b1, .int .i64 b2, .int .i64 b3, .int .i64 b4]] W fun e w' => e = .returned (.int .i64 (a1 - b1)) ∧ ∃ q os', w' = Sort.grow (W.drewN q) os'
  have hw : IntKind.i64.wrap (a1 - b1) = a1 - b1 := IntWalk.i64_in _ (by omega)
  go_enter Try.func91, Try.ntmps91
  go_wp2
  go_ret
  exact ⟨rfl, 0, _, by rw [Sort.alloc_eq_grow, Sort.alloc_eq_grow, Sort.grow_grow]; rfl⟩
set_option maxHeartbeats 1000000 in
theorem sortNoneE (A : Option Addr) (c : Nat) (fv : Value) (w : World) : Calls Try.prog 90 #[.slice A 0 c, fv] w fun e w' => e = .returned (.tuple #[]) ∧ w' = w := by
  have hst : Calls Try.prog 108 #[.slice A 0 c, .int .i64 0, fv] w fun e w' => e = .returned (.tuple #[]) ∧ w' = w := by
    have hi := AnyF.insertionSortCmpFunc_none { Try.insE with } A c fv w
    have HI := Aside0.mk hi
    clear hi
    go_enter Try.func108, Try.ntmps108
    go_wp2
    go_loopg [7, 8] 0 (fun kx s7 s8 wr => s7 = .int .i64 0 ∧ s8 = .int .i64 20 ∧ wr = w)
    case atStart => exact ⟨rfl, rfl, rfl⟩
    case round =>
      obtain ⟨rfl, rfl, rfl⟩ := hrel
      go_wp2_with (go_at_call 116; refine Calls.mono HI.out ?_; rintro e w1 ⟨rfl, rfl⟩)
      go_loopg [6, 7, 8, 9] 0 (fun kx s6 s7 s8 s9 wr => s6 = .int .i64 20 ∧ wr = w1)
      case atStart => exact ⟨rfl, rfl⟩
      case round =>
        obtain ⟨rfl, rfl⟩ := hrel
        go_wp2
        go_end0
        exact ⟨rfl, rfl⟩
  have HS := Aside0.mk hst
  clear hst
  go_enter Try.func90, Try.ntmps90
  go_wp2_with (go_at_call 108; refine Calls.mono HS.out ?_; rintro e w1 ⟨rfl, rfl⟩)
  go_end0
  exact ⟨rfl, rfl⟩
theorem sortE_any {W : World} {base : Nat} {v : Value} {xs : List S137} (hr : k137.R 137 W base (fun _ => True) v xs) (hx : ∀ p ∈ xs, -16777216 ≤ p.f1 ∧ p.f1 ≤ 16777216) (hlen : xs.length < 1152921504606846976) :
    Calls Try.prog 90 #[v, .func (.func 91) #[] #[]] W fun e w' => e = .returned (.tuple #[]) ∧ W.grownBy w' v.ownBlock ∧ ∃ l, k137.R 137 w' base (fun _ => True) v l ∧ l.Perm xs ∧ l.Pairwise (fun a b => a.f1 ≤ b.f1) := by
  rcases Nat.eq_zero_or_pos xs.length with h0 | h0
  · obtain ⟨A, c, hv, _, hC⟩ := Kd.R_reads hr
    subst hv
    have hcon := sortNoneE A c (.func (.func 91) #[] #[]) W
    rw [h0]
    refine Calls.mono hcon ?_
    rintro e w' ⟨rfl, rfl⟩
    rw [h0] at hr
    have hnil := List.length_eq_zero_iff.1 h0
    subst hnil
    exact ⟨rfl, ⟨rfl, rfl, rfl, Nat.le_refl _, fun _ _ _ => rfl⟩, [], hr, List.Perm.refl _, List.Pairwise.nil⟩
  · obtain ⟨g, cap, hv, hg, hg1, cells, hcells⟩ := Kd.R_form hr h0
    subst hv
    obtain ⟨d, hd1, hd2, hd3⟩ : ∃ d : Array ER, d.size = xs.length ∧ (∀ i (h : i < xs.length), encE d[i]! = e137 xs[i]) ∧ d.toList.map (fun p => p.1) = xs := by
      refine ⟨(xs.attach.map fun p => (⟨p.1, hx _ p.2⟩ : ER)).toArray, by simp, fun i h => ?_, ?_⟩
      · rw [getElem!_pos _ i (by simpa using h)]
        simp [encE]
      · simp [List.map_map, Function.comp_def]
    have hH : Sort.HoldsK encE 5 W g 0 d := by
      intro t ht
      rw [Sort.size_flatK, hd1] at ht
      rw [Sort.get_flatK _ _ _ _ (by rw [hd1]; exact ht), Nat.zero_add, hd2 _ (by omega)]
      have := row_cell (d := k137) (enc := e137) (z := z137) k137_openM hr (t / 5) (by omega) (t % 5) (Nat.mod_lt _ (by decide))
      have e5 : k137.sz = 5 := rfl
      rw [e5, show t / 5 * 5 + t % 5 = t by omega] at this
      exact this
    have eg : ∀ args w, (callFunc 91 args).run Try.prog w = .ok (.enter 91 args) w := enters_of Try.func91 (by kernel_rfl) rfl
    have R : RowK encE 5 W g 0 d := ⟨fun _ => rfl, fun x v hv => by simp [encE, e137] at hv; rcases hv with rfl | rfl | rfl | rfl | rfl <;> rfl, hH, hg1⟩
    have hcon := sortStable_any (cap := cap) R hd1 hlen cfE swoE 91 #[] eg (fun m os dk _ x y => closeE x y _)
    refine Calls.mono hcon ?_
    rintro e w' ⟨rfl, d', ⟨n, os, rfl⟩, hp, hs⟩
    refine ⟨rfl, sortWorld_grown encE 5, d'.toList.map (fun p => p.1), ?_, ?_, ?_⟩
    · exact sorted_back k137 (fun p : ER => p.1) encE (fun _ => rfl) (fun w base ok x => k137_mkM w base ok x.1) hr hH hd1 hp.1 hg1
    · have := (perm_list hp hd1).map (fun p : ER => p.1)
      rw [hd3] at this
      exact this
    · exact sorted_list hs (hp.1.trans hd1) (fun x y h => by rw [ltE] at h; simpa using h)
/-! ### crossings -/
abbrev CR : Type := {p : S144 // -2147483648 ≤ p.f0 ∧ p.f0 ≤ 2147483648}
instance : Inhabited CR := ⟨⟨z144, by decide⟩⟩
def encC (x : CR) : List Value := e144 x.1
def cfC (x y : CR) : Int := x.1.f0 - y.1.f0
theorem ltC (x y : CR) : ltOf cfC x y = decide (x.1.f0 < y.1.f0) := by
  unfold ltOf cfC
  exact decide_eq_decide.mpr (by omega)
theorem swoC : Sort.SWO (ltOf cfC) where
  irrefl x := by rw [ltC]; simp
  trans x y z h1 h2 := by rw [ltC] at *; simp at *; omega
  ntrans x y z h1 h2 := by rw [ltC] at *; simp at *; omega
set_option maxHeartbeats 1000000 in
theorem closeC (x y : CR) (W : World) : Calls Try.prog 96 #[.agg (encC x).toArray, .agg (encC y).toArray] W fun e w' => e = .returned (.int .i64 (cfC x y)) ∧ ∃ q os', w' = Sort.grow (W.drewN q) os' := by
  obtain ⟨⟨a0, a1⟩, hx⟩ := x
  obtain ⟨⟨b0, b1⟩, hy⟩ := y
  unfold encC cfC e144
  dsimp only at hx hy ⊢
  show Calls Try.prog _ #[.agg #[.int .i64 a0, .int .i64 a1], .agg #[.int .i64 b0, .int .i64 b1]] W fun e w' => e = .returned (.int .i64 (a0 - b0)) ∧ ∃ q os', w' = Sort.grow (W.drewN q) os'
  have hw : IntKind.i64.wrap (a0 - b0) = a0 - b0 := IntWalk.i64_in _ (by omega)
  go_enter Try.func96, Try.ntmps96
  go_wp2
  go_ret
  exact ⟨rfl, 0, _, by rw [Sort.alloc_eq_grow, Sort.alloc_eq_grow, Sort.grow_grow]; rfl⟩
theorem sortC_any {W : World} {base : Nat} {v : Value} {xs : List S144} (hr : k144.R 144 W base (fun _ => True) v xs) (hx : ∀ p ∈ xs, -2147483648 ≤ p.f0 ∧ p.f0 ≤ 2147483648) (hlen : xs.length < 1152921504606846976) :
    Calls Try.prog 95 #[v, .func (.func 96) #[] #[]] W fun e w' => e = .returned (.tuple #[]) ∧ W.grownBy w' v.ownBlock ∧ ∃ l, k144.R 144 w' base (fun _ => True) v l ∧ l.Perm xs ∧ l.Pairwise (fun a b => a.f0 ≤ b.f0) := by
  rcases Nat.eq_zero_or_pos xs.length with h0 | h0
  · obtain ⟨A, c, hv, _, hC⟩ := Kd.R_reads hr
    subst hv
    have hcon := AnyF.slices_SortFunc_none { Try.sortCr with } A c (.func (.func 96) #[] #[]) W
    rw [h0]
    refine Calls.mono hcon ?_
    rintro e w' ⟨rfl, rfl⟩
    rw [h0] at hr
    have hnil := List.length_eq_zero_iff.1 h0
    subst hnil
    exact ⟨rfl, ⟨rfl, rfl, rfl, Nat.le_refl _, fun _ _ _ => rfl⟩, [], hr, List.Perm.refl _, List.Pairwise.nil⟩
  · obtain ⟨g, cap, hv, hg, hg1, cells, hcells⟩ := Kd.R_form hr h0
    subst hv
    obtain ⟨d, hd1, hd2, hd3⟩ : ∃ d : Array CR, d.size = xs.length ∧ (∀ i (h : i < xs.length), encC d[i]! = e144 xs[i]) ∧ d.toList.map (fun p => p.1) = xs := by
      refine ⟨(xs.attach.map fun p => (⟨p.1, hx _ p.2⟩ : CR)).toArray, by simp, fun i h => ?_, ?_⟩
      · rw [getElem!_pos _ i (by simpa using h)]
        simp [encC]
      · simp [List.map_map, Function.comp_def]
    have hH : Sort.HoldsK encC 2 W g 0 d := by
      intro t ht
      rw [Sort.size_flatK, hd1] at ht
      rw [Sort.get_flatK _ _ _ _ (by rw [hd1]; exact ht), Nat.zero_add, hd2 _ (by omega)]
      have := row_cell (d := k144) (enc := e144) (z := z144) k144_openM hr (t / 2) (by omega) (t % 2) (Nat.mod_lt _ (by decide))
      have e5 : k144.sz = 2 := rfl
      rw [e5, show t / 2 * 2 + t % 2 = t by omega] at this
      exact this
    have eg : ∀ args w, (callFunc 96 args).run Try.prog w = .ok (.enter 96 args) w := enters_of Try.func96 (by kernel_rfl) rfl
    have hcon := AnyQ.slices_SortFunc Try.sortCr 2 Try.isAgg144 Try.sizeOf144 encC (fun _ => rfl) (fun x v hv => by simp [encC, e144] at hv; rcases hv with rfl | rfl <;> rfl) cfC swoC 96 #[] g 0 cap d W eg (fun m os dk _ x y => closeC x y _) hH hg1 (by rw [hd1]; omega)
    rw [hd1] at hcon
    refine Calls.mono hcon ?_
    rintro e w' ⟨rfl, d', n, os, hp, hs, rfl⟩
    refine ⟨rfl, sortWorld_grown encC 2, d'.toList.map (fun p => p.1), ?_, ?_, ?_⟩
    · exact sorted_back k144 (fun p : CR => p.1) encC (fun _ => rfl) (fun w base ok x => k144_mkM w base ok x.1) hr hH hd1 hp.1 hg1
    · have := (perm_list hp hd1).map (fun p : CR => p.1)
      rw [hd3] at this
      exact this
    · exact sorted_list hs (hp.1.trans hd1) (fun x y h => by rw [ltC] at h; simpa using h)
end Go.Proofs.Yteoonjnmghponaa.H
namespace Go.Proofs.Yteoonjnmghponaa.H
open Go.RowKit Go.Proofs.Yteoonjnmghponaa.F Go.Proofs.YteoonjnmghponaaW.PrintWords Go.Proofs.YteoonjnmghponaaW.PrintLast Go.Proofs.YteoonjnmghponaaW.PrintMore
set_option linter.unusedVariables false
set_option linter.unusedSimpArgs false
set_option maxHeartbeats 8000000 in
set_option maxRecDepth 100000 in
theorem edges_any {w : World} {A : Option Addr} {c : Nat} {xs : List (List S30)} {B : Bx} (hC : Kd.C (Kd.slice 30 k30) w A xs.length xs) (hl : xs.length ≤ 256) (hx : ∀ c ∈ xs, c.length ≤ 70000) (hB : ∀ c ∈ xs, ∀ s ∈ c, InS B s.f0 s.f1) (hy : -16777216 ≤ B.y0 ∧ B.y1 ≤ 16777216) :
    Calls Try.prog 43 #[.slice A xs.length c] w fun e w' => ∃ v l, e = .returned v ∧ k137.R 137 w' w.heap.size (fun _ => True) v l ∧ l.Perm (edgesOf xs []) ∧ l.Pairwise (fun a b => a.f1 ≤ b.f1) ∧ Below w.heap.size w w' := by
  have HC := Aside0.mk hC
  have HX := Aside0.mk hx
  have HOKs := Aside0.mk (edges_ok hB)
  have HY := Aside0.mk hy
  have HLen := Aside0.mk (edges_len (m := 70000) xs [] hx)
  clear hC hx hB hy
  obtain ⟨F, hF⟩ : ∃ z, z = edgesOf xs [] := ⟨_, rfl⟩
  rw [← hF] at HOKs HLen ⊢
  have HF := Aside0.mk hF
  clear hF
  go_enter Try.func43, Try.ntmps43
  go_wp2
  go_loopg [3, 5, 6, 7, 8, 11, 30, 48] xs.length (fun kx s3 s5 s6 s7 s8 s11 s30 s48 wr => ∃ (i : Nat) (v : Value) (o : List S137), s3 = v ∧ s11 = .int .i64 i ∧ i ≤ xs.length ∧ xs.length - i ≤ kx ∧ o.length ≤ 70000 * i ∧ Aside0 (F = edgesOf (xs.drop i) o) ∧ Aside0 (k137.R 137 wr w.heap.size (fun _ => True) v o) ∧ Aside0 (Below w.heap.size w wr))
  case atStart => exact ⟨0, _, [], rfl, rfl, Nat.zero_le _, Nat.le_refl _, Nat.le_refl _, HF, ⟨Kd.R_nil _ _ _ _ _⟩, ⟨Below.refl _ _⟩⟩
  case round =>
    clear HF
    obtain ⟨i, v, o, rfl, rfl, hin, hkx, hol, HF, HO, HBw⟩ := hrel
    by_cases hlt : i < xs.length
    · have hltz : (i : Int) < (xs.length : Int) := by omega
      obtain ⟨ad, A0, c0, e, q0, q1, q2⟩ := at_L2 HC.out i (by omega) (by omega)
      subst e
      have hrow : rd_L2 xs i = xs[i] := by
        unfold rd_L2
        rw [Int.toNat_natCast, List.getD_eq_getElem?_getD, List.getElem?_eq_getElem hlt]
        rfl
      rw [hrow] at q0 q1 q2
      rw [Int.toNat_natCast] at q0
      have hF := HF.out
      rw [List.drop_eq_getElem_cons hlt] at hF
      have hF2 : F = edgesOf (xs.drop (i + 1)) (rowF xs[i] 0 o) := hF
      have hrl := HX.out _ (List.getElem_mem hlt)
      generalize xs[i] = l at *
      have HF2 := Aside0.mk hF2
      have HC2 := Aside0.mk q2
      have qk := pw_cell_below HBw.out q0
      clear q0 q1 q2 hF hF2 hrow HF
      obtain ⟨G, hG⟩ : ∃ z, z = rowF l 0 o := ⟨_, rfl⟩
      rw [← hG] at HF2
      have HG := Aside0.mk hG
      clear hG
      go_upto_region 5 with fail
      clear qk
      go_wp2
      go_loopg [3, 6, 7, 8, 17, 30, 48] l.length (fun kx s3 s6 s7 s8 s17 s30 s48 wr => ∃ (j : Nat) (v : Value) (o : List S137), s3 = v ∧ s17 = .int .i64 j ∧ j ≤ l.length ∧ l.length - j ≤ kx ∧ o.length ≤ 70000 * i + j ∧ Aside0 (G = rowF l j o) ∧ Aside0 (k137.R 137 wr w.heap.size (fun _ => True) v o) ∧ Aside0 (Below w.heap.size w wr))
      case atStart => exact ⟨0, _, o, rfl, rfl, Nat.zero_le _, Nat.le_refl _, by omega, HG, HO, HBw⟩
      case round =>
        clear HG HO HBw
        obtain ⟨j, v, o, rfl, rfl, hjn, hkj, hol, HG, HO, HBw⟩ := hrel
        obtain ⟨Av, cv, hv⟩ := Kd.R_slice HO.out
        subst hv
        by_cases hjl : j < l.length
        · have hjz : (j : Int) < (l.length : Int) := by omega
          have hC2 := Kd.C_below HC2.out HBw.out
          obtain ⟨ae, e, q0, q1⟩ := at_T30 hC2 j (by omega) (by omega)
          subst e
          have hm : (j + 1) % l.length < l.length := Nat.mod_lt _ (by omega)
          obtain ⟨ae2, e, p0, p1⟩ := at_T30 hC2 (((j + 1) % l.length : Nat) : Int) (by omega) (by omega)
          cases e
          have ra : rd_T30 l j = vx l j := by
            unfold rd_T30 vx
            rw [Int.toNat_natCast, Nat.mod_eq_of_lt hjl]
          have rb : rd_T30 l (((j + 1) % l.length : Nat) : Int) = vx l (j + 1) := by
            unfold rd_T30 vx
            rw [Int.toNat_natCast]
          rw [ra, Int.toNat_natCast] at q0 q1
          rw [rb, Int.toNat_natCast] at p0 p1
          have hG := HG.out
          rw [rowF_step hjl] at hG
          have HG2 := Aside0.mk hG
          clear hG HG ra rb hC2
          generalize vx l j = a at *
          generalize vx l (j + 1) = b at *
          have hrem : Int.tmod ((j : Int) + 1) (l.length : Int) = (((j + 1) % l.length : Nat) : Int) := by
            rw [Int.tmod_eq_emod_of_nonneg (by omega)]
            rfl
          generalize hmm : (j + 1) % l.length = m at *
          have hz0 : ((l.length : Int) == 0) = false := by rw [beq_eq_false_iff_ne]; omega
          have hz1 : ¬ (l.length : Int) = 0 := by omega
          have hz2 : 0 < l.length := by omega
          obtain ⟨a0, a1⟩ := a
          obtain ⟨b0, b1⟩ := b
          dsimp only at *
          go_upto_region 8 with fail
          have hb7 := below_alloc (Below.refl wr.heap.size wr) (.cells #[.int .i64 a0, .int .i64 a1] 30)
          have B7 := Aside0.mk (blk_new wr (.cells #[.int .i64 a0, .int .i64 a1] 30))
          have r0 := pw_cell_below hb7 p0
          have r1 := pw_cell_below hb7 p1
          have HO7 := Aside0.mk (Kd.R_below HO.out hb7)
          have HB7 := Aside0.mk (below_then HBw.out HBw.out.size hb7)
          have HG7 : Aside0 (wr.heap.size < (wr.alloc (.cells #[.int .i64 a0, .int .i64 a1] 30)).heap.size) := ⟨by simp⟩
          clear hb7 q0 q1 p0 p1 HO HBw
          generalize wr.alloc (.cells #[.int .i64 a0, .int .i64 a1] 30) = wk at *
          generalize wr.heap.size = g7 at *
          go_upto_region 9 with fail
          have hb8 := below_alloc (Below.refl wk.heap.size wk) (.cells #[.int .i64 b0, .int .i64 b1] 30)
          have b7 := blk_below B7.out hb8
          have b8 := blk_new wk (.cells #[.int .i64 b0, .int .i64 b1] 30)
          have HO8 := Aside0.mk (Kd.R_below HO7.out hb8)
          have HB8 := Aside0.mk (below_then HB7.out HB7.out.size hb8)
          clear hb8 r0 r1 HO7 HB7 B7
          generalize wk.alloc (.cells #[.int .i64 b0, .int .i64 b1] 30) = wm at *
          generalize wk.heap.size = g8 at *
          have k70 : wm.cell? ⟨g7, 0, none⟩ = some (.int .i64 a0) := (blk_cell b7 0).trans rfl
          have k71 : wm.cell? ⟨g7, 1, none⟩ = some (.int .i64 a1) := (blk_cell b7 1).trans rfl
          have k80 : wm.cell? ⟨g8, 0, none⟩ = some (.int .i64 b0) := (blk_cell b8 0).trans rfl
          have k81 : wm.cell? ⟨g8, 1, none⟩ = some (.int .i64 b1) := (blk_cell b8 1).trans rfl
          clear b7 b8
          have hlen70 : o.length ≤ 70000 * 256 + 70000 := by have := hrl; omega
          rcases (show a1 < b1 ∨ (¬ a1 < b1 ∧ b1 < a1) ∨ (¬ a1 < b1 ∧ ¬ b1 < a1) by omega) with hab | ⟨hab, hba⟩ | ⟨hab, hba⟩
          · have hd1 : decide (a1 < b1) = true := decide_eq_true hab
            have hed : ed ⟨a0, a1⟩ ⟨b0, b1⟩ = [⟨a0, a1, b0, b1, 1⟩] := by unfold ed; exact if_pos hab
            rw [hed] at HG2
            clear hed
            go_wp2_with ((with_reducible refine gate_builtin (b := .append) (xs := #[.tmp 36, .tmp 46]) rfl ?_); at_builtin; refine Kd.R_append k137 (w0 := w) w.heap.size rfl (.tmp 36) (.tmp 46) 59 137 (.agg #[(.int .i64 0), (.int .i64 0), (.int .i64 0), (.int .i64 0), (.int .i64 0)]) 40 rfl Try.underlying59 info137 rfl (by decide) (by omega) (.slice Av o.length cv) o (⟨a0, a1, b0, b1, 1⟩ : S137) [.int .i64 a0, .int .i64 a1, .int .i64 b0, .int .i64 b1, .int .i64 1] (fun _ => True) (fun _ => False) rfl rfl ?aP (fun _ hk => hk.elim) ?aF ?aO ?aB ?aS ?aL ?_; (case aP => exact k137_mkM _ _ _ (⟨a0, a1, b0, b1, 1⟩ : S137)); (case aB => exact HB8.out); (case aF => exact (fun _ _ => trivial)); (case aO => exact HO8.out); (case aS => exact HB8.out.size); (case aL => omega); intro v9 w9 ho hb hg hat; have HO9 := Aside0.mk ho; have HB9 := Aside0.mk hb; clear ho hb hg hat)
            go_roundg (l.length - (j + 1))
            case measure => omega
            case rel => exact ⟨j + 1, _, _, rfl, by go_num, by omega, Nat.le_refl _, by simp; omega, HG2, HO9, HB9⟩
          · have hd1 : decide (a1 < b1) = false := decide_eq_false hab
            have hd2 : decide (b1 < a1) = true := decide_eq_true hba
            have hed : ed ⟨a0, a1⟩ ⟨b0, b1⟩ = [⟨b0, b1, a0, a1, -1⟩] := by unfold ed; exact (if_neg hab).trans (if_pos hba)
            rw [hed] at HG2
            clear hed
            go_wp2_with ((with_reducible refine gate_builtin (b := .append) (xs := #[.tmp 54, .tmp 64]) rfl ?_); at_builtin; refine Kd.R_append k137 (w0 := w) w.heap.size rfl (.tmp 54) (.tmp 64) 59 137 (.agg #[(.int .i64 0), (.int .i64 0), (.int .i64 0), (.int .i64 0), (.int .i64 0)]) 40 rfl Try.underlying59 info137 rfl (by decide) (by omega) (.slice Av o.length cv) o (⟨b0, b1, a0, a1, (-1)⟩ : S137) [.int .i64 b0, .int .i64 b1, .int .i64 a0, .int .i64 a1, .int .i64 (-1)] (fun _ => True) (fun _ => False) rfl rfl ?aP (fun _ hk => hk.elim) ?aF ?aO ?aB ?aS ?aL ?_; (case aP => exact k137_mkM _ _ _ (⟨b0, b1, a0, a1, (-1)⟩ : S137)); (case aB => exact HB8.out); (case aF => exact (fun _ _ => trivial)); (case aO => exact HO8.out); (case aS => exact HB8.out.size); (case aL => omega); intro v9 w9 ho hb hg hat; have HO9 := Aside0.mk ho; have HB9 := Aside0.mk hb; clear ho hb hg hat)
            go_roundg (l.length - (j + 1))
            case measure => omega
            case rel => exact ⟨j + 1, _, _, rfl, by go_num, by omega, Nat.le_refl _, by simp; omega, HG2, HO9, HB9⟩
          · have hd1 : decide (a1 < b1) = false := decide_eq_false hab
            have hd2 : decide (b1 < a1) = false := decide_eq_false hba
            have hed : ed ⟨a0, a1⟩ ⟨b0, b1⟩ = [] := by unfold ed; exact (if_neg hab).trans (if_neg hba)
            rw [hed, List.append_nil] at HG2
            clear hed
            go_wp2
            go_roundg (l.length - (j + 1))
            case measure => omega
            case rel => exact ⟨j + 1, _, _, rfl, by go_num, by omega, Nat.le_refl _, by omega, HG2, HO8, HB8⟩
        · have hjz : ¬ (j : Int) < (l.length : Int) := by omega
          have hje : j = l.length := by omega
          have hG := HG.out
          rw [hje, rowF_done] at hG
          subst hG
          go_wp2
          go_roundg (xs.length - (i + 1))
          case measure => omega
          case rel => exact ⟨i + 1, _, G, rfl, by go_num, by omega, Nat.le_refl _, by omega, HF2, HO, HBw⟩
    · have hltz : ¬ (i : Int) < (xs.length : Int) := by omega
      have hie : i = xs.length := by omega
      have hF := HF.out
      rw [hie, List.drop_length] at hF
      have hF2 : F = o := hF
      subst hF2
      have hsrt := sortE_any HO.out (fun p hp => by have h := HOKs.out p hp; have := h.a; have := HY.out; unfold InS at *; omega) (by have := HLen.out; simp at this; omega)
      have HS := Aside0.mk hsrt
      clear hsrt
      go_wp2_with (go_at_call 90; ((with_reducible refine Calls.mono HS.out ?_); rintro e w6 ⟨rfl, hg6, l6, ho6, hp6, hs6⟩; have HO6 := Aside0.mk ho6; have HP6 := Aside0.mk hp6; have HS6 := Aside0.mk hs6; have HB6 := Aside0.mk (pw_below_grown HBw.out _ HBw.out.size hg6 (fun k hk => Kd.R_base HO.out k hk)); clear hg6 ho6 hp6 hs6))
      go_ret
      exact ⟨_, l6, rfl, HO6.out, HP6.out, HS6.out, HB6.out⟩
end Go.Proofs.Yteoonjnmghponaa.H
