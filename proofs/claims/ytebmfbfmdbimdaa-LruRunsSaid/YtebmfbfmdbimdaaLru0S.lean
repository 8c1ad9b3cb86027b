/- The state of package lru's cache in memory: the ring of entries, the map, and what the steps of the code do to them (keys: string). -/
import Derived.Test.YtebmfbfmdbimdaaBase
import Derived.BigRegion
import Derived.Maps.OwnSet
import Derived.StringKeys
namespace Go.Proofs.Ytebmfbfmdbimdaa.F.Ls
open Go.RowKit Go.Proofs.YtebmfbfmdbimdaaW.PrintWords Go.Proofs.YtebmfbfmdbimdaaW.PrintLast Go.Proofs.YtebmfbfmdbimdaaW.PrintMore
set_option linter.unusedVariables false
set_option linter.unusedSimpArgs false
abbrev KT := ByteArray
def kv (k : KT) : Value := .string k
def klit (k : KT) : Lit := .string k.data.toList
def kok (k : KT) : Prop := k.size ≤ maxLen
theorem klit_inj {k k' : KT} (h : klit k = klit k') : k = k' := by
  have h2 : k.data.toList = k'.data.toList := by simpa [klit] using h
  exact ByteArray.ext (Array.toList_inj.1 h2)
theorem key_of {k : KT} (h : kok k) : keyOf Try.prog 9 (kv k) = some (klit k) := WideMaps.keyOf_string_mk Try.underlying9 h
theorem keyed : Maps.Keyed Try.prog 9 := Maps.string_keyed Try.underlying9
theorem key_lit {k : KT} (h : kok k) : WideAt.IsKeyLit (klit k) := keyed.key (key_of h)
/-- An entry: the block it lies in, its key, its value, its size. -/
structure Ent where
  b : Nat
  k : KT
  v : Int
  s : Int
def off (c x : Nat) : Nat := if x = c then 1 else 0
/-- The pointer to the node of block x: the ring's own entry lies within the cache's block c. -/
def ptr (c x : Nat) : Value := .pointer (some ⟨x, off c x, none⟩)
def upd (f : Nat → Nat) (x y : Nat) : Nat → Nat := fun z => if z = x then y else f z
theorem upd_same (f : Nat → Nat) (x y : Nat) : upd f x y x = y := if_pos rfl
theorem upd_far (f : Nat → Nat) {x z : Nat} (h : z ≠ x) (y : Nat) : upd f x y z = f z := if_neg h
def hasK (k : KT) (L : List Ent) : Bool := L.any (fun e => decide (e.k = k))
def rm (k : KT) (L : List Ent) : List Ent := L.filter (fun e => decide (e.k ≠ k))
def tot (L : List Ent) : Int := (L.map Ent.s).sum
theorem hasK_iff {k : KT} {L : List Ent} : hasK k L = true ↔ ∃ e ∈ L, e.k = k := by simp [hasK]
theorem hasK_false {k : KT} {L : List Ent} : hasK k L = false ↔ ∀ e ∈ L, e.k ≠ k := by simp [hasK]
/-! ### the links -/
/-- Neighbours in the list are linked both ways. -/
def Chn (o n : Nat → Nat) : List Nat → Prop
  | [] => True
  | x :: l => (∀ y, l.head? = some y → o x = y ∧ n y = x) ∧ Chn o n l
theorem chn_append (o n : Nat → Nat) (x : Nat) (l2 : List Nat) : ∀ l1 : List Nat, Chn o n (l1 ++ x :: l2) ↔ Chn o n (l1 ++ [x]) ∧ Chn o n (x :: l2)
  | [] => by simp [Chn]
  | y :: l1 => by
    have ih := chn_append o n x l2 l1
    cases l1 with
    | nil => simp [Chn]
    | cons z l1 =>
      simp only [List.cons_append, Chn, List.head?_cons] at ih ⊢
      rw [ih]
      exact ⟨fun h => ⟨⟨h.1, h.2.1⟩, h.2.2⟩, fun h => ⟨h.1.1, h.1.2, h.2⟩⟩
/-- The links hold on where no node that counts has been turned. -/
theorem chn_keep {o n o' n' : Nat → Nat} : ∀ {l : List Nat}, Chn o n l → (∀ x ∈ l.dropLast, o' x = o x) → (∀ y ∈ l.tail, n' y = n y) → Chn o' n' l
  | [], _, _, _ => trivial
  | [x], _, _, _ => ⟨fun y h => by simp at h, trivial⟩
  | x :: y :: l, h, ho, hn => by
    refine ⟨fun z hz => ?_, chn_keep h.2 (fun z hz => ho z (by simp only [List.dropLast_cons_cons]; exact List.mem_cons_of_mem _ hz)) (fun z hz => hn z (by simp only [List.tail_cons] at hz ⊢; exact List.mem_cons_of_mem _ hz))⟩
    obtain rfl : y = z := by simpa using hz
    have := h.1 y rfl
    exact ⟨(ho x (by simp)).trans this.1, (hn y (by simp)).trans this.2⟩
theorem snoc_of : ∀ (x : Nat) (l : List Nat), ∃ p a, x :: l = p ++ [a]
  | x, [] => ⟨[], x, rfl⟩
  | x, y :: l => by
    obtain ⟨p, a, h⟩ := snoc_of y l
    exact ⟨x :: p, a, by rw [h]; rfl⟩
/-- The links of the whole ring: out of the cache's own node c through bs and back. -/
def Ring (o n : Nat → Nat) (c : Nat) (bs : List Nat) : Prop := Chn o n (c :: (bs ++ [c]))
theorem Ring.split {o n : Nat → Nat} {c e : Nat} {l1 l2 : List Nat} (h : Ring o n c (l1 ++ e :: l2)) : ∃ p a b q, c :: l1 = p ++ [a] ∧ l2 ++ [c] = b :: q ∧ n e = a ∧ o e = b ∧ Chn o n (p ++ [a]) ∧ Chn o n (b :: q) := by
  obtain ⟨p, a, hp⟩ := snoc_of c l1
  obtain ⟨b, q, hq⟩ : ∃ b q, l2 ++ [c] = b :: q := by cases l2 <;> exact ⟨_, _, rfl⟩
  unfold Ring at h
  rw [List.append_assoc, List.cons_append, hq, show c :: (l1 ++ (e :: b :: q)) = (c :: l1) ++ (e :: b :: q) from rfl, hp, List.append_assoc, List.singleton_append, chn_append] at h
  have h1 := h.2.1 e rfl
  have h2 := h.2.2.1 b rfl
  exact ⟨p, a, b, q, hp, hq, h1.2, h2.1, h.1, h.2.2.2⟩
theorem Ring.unlink {o n : Nat → Nat} {c e : Nat} {l1 l2 : List Nat} (h : Ring o n c (l1 ++ e :: l2)) (hn : (c :: (l1 ++ e :: l2)).Nodup) : Ring (upd o (n e) (o e)) (upd n (o e) (n e)) c (l1 ++ l2) := by
  obtain ⟨p, a, b, q, hp, hq, ha, hb, h1, h2⟩ := h.split
  rw [ha, hb]
  obtain ⟨hc, hnn⟩ := List.nodup_cons.1 hn
  rw [List.nodup_append] at hnn
  obtain ⟨n1, n2, n3⟩ := hnn
  obtain ⟨n4, n5⟩ := List.nodup_cons.1 n2
  have hpa : (p ++ [a]).Nodup := by
    rw [← hp]
    exact List.nodup_cons.2 ⟨fun hh => hc (List.mem_append_left _ hh), n1⟩
  have hbq : (b :: q).Nodup := by
    rw [← hq, List.nodup_append]
    exact ⟨n5, by simp, fun x hx y hy => by
      simp at hy
      subst hy
      exact fun he => hc (List.mem_append_right _ (List.mem_cons_of_mem _ (he ▸ hx)))⟩
  have hap : a ∉ p := by
    rw [List.nodup_append] at hpa
    exact fun hh => hpa.2.2 a hh a (by simp) rfl
  have hbt : b ∉ q := (List.nodup_cons.1 hbq).1
  have hal : a ∈ c :: l1 := by rw [hp]; simp
  have hbl : b ∈ l2 ++ [c] := by rw [hq]; simp
  unfold Ring
  rw [List.append_assoc, hq, show c :: (l1 ++ b :: q) = (c :: l1) ++ (b :: q) from rfl, hp, List.append_assoc, List.singleton_append, chn_append]
  refine ⟨chn_keep h1 (fun x hx => ?_) (fun y hy => ?_), fun y hy => ?_, chn_keep h2 (fun x hx => ?_) (fun y hy => ?_)⟩
  · rw [List.dropLast_concat] at hx
    exact upd_far _ (by intro he; exact hap (he ▸ hx)) _
  · rw [← hp, List.tail_cons] at hy
    refine upd_far _ (fun he => ?_) _
    subst he
    rcases List.mem_append.1 hbl with hh | hh
    · exact n3 y hy y (List.mem_cons_of_mem _ hh) rfl
    · simp at hh
      subst hh
      exact hc (List.mem_append_left _ hy)
  · obtain rfl : b = y := by simpa using hy
    exact ⟨upd_same _ _ _, upd_same _ _ _⟩
  · rw [← hq, List.dropLast_concat] at hx
    refine upd_far _ (fun he => ?_) _
    subst he
    rcases List.mem_cons.1 hal with hh | hh
    · exact hc (List.mem_append_right _ (List.mem_cons_of_mem _ (hh ▸ hx)))
    · exact n3 x hh x (List.mem_cons_of_mem _ hx) rfl
  · rw [List.tail_cons] at hy
    exact upd_far _ (by intro he; exact hbt (he ▸ hy)) _
theorem Ring.use {o n : Nat → Nat} {c e : Nat} {bs : List Nat} (h : Ring o n c bs) (hn : (c :: bs).Nodup) (he : e ∉ c :: bs) : Ring (upd (upd o e (o c)) c e) (upd (upd n e c) (o c) e) c (e :: bs) := by
  obtain ⟨b, q, hq⟩ : ∃ b q, bs ++ [c] = b :: q := by cases bs <;> exact ⟨_, _, rfl⟩
  obtain ⟨hc, hnn⟩ := List.nodup_cons.1 hn
  have hbq : (b :: q).Nodup := by
    rw [← hq, List.nodup_append]
    exact ⟨hnn, by simp, fun x hx y hy => by
      simp at hy
      subst hy
      exact fun he => hc (he ▸ hx)⟩
  have hec : e ≠ c := fun h => he (by simp [h])
  have hbl : b ∈ bs ++ [c] := by rw [hq]; simp
  have heb : e ≠ b := by
    rintro rfl
    rcases List.mem_append.1 hbl with hh | hh
    · exact he (List.mem_cons_of_mem _ hh)
    · exact hec (by simpa using hh)
  unfold Ring at h ⊢
  rw [hq] at h
  rw [List.cons_append, hq]
  have h0 := h.1 b rfl
  rw [h0.1]
  refine ⟨fun y hy => ?_, fun y hy => ?_, chn_keep h.2 (fun x hx => ?_) (fun y hy => ?_)⟩
  · obtain rfl : e = y := by simpa using hy
    exact ⟨upd_same _ _ _, by rw [upd_far _ heb, upd_same]⟩
  · obtain rfl : b = y := by simpa using hy
    exact ⟨by rw [upd_far _ hec, upd_same], upd_same _ _ _⟩
  · rw [← hq, List.dropLast_concat] at hx
    rw [upd_far _ (show x ≠ c from fun hh => hc (hh ▸ hx)), upd_far _ (show x ≠ e from fun hh => he (hh ▸ List.mem_cons_of_mem _ hx))]
  · rw [List.tail_cons] at hy
    have h1 : y ∈ bs ++ [c] := by rw [hq]; exact List.mem_cons_of_mem _ hy
    rw [upd_far _ (show y ≠ b from fun hh => (List.nodup_cons.1 hbq).1 (hh ▸ hy)), upd_far]
    rintro rfl
    rcases List.mem_append.1 h1 with hh | hh
    · exact he (List.mem_cons_of_mem _ hh)
    · exact hec (by simpa using hh)
/-! ### the nodes in memory -/
structure Nodes (w : World) (c m : Nat) (E B H : Int) (L : List Ent) (o n : Nat → Nat) : Prop where
  cb : w.heap[c]? = some (.cells #[.map (some m), .string ByteArray.empty, .int .i64 0, .int .i64 0, ptr c (n c), ptr c (o c), .int .i64 E, .int .i64 B, .int .i64 H] 105 (0, 0))
  eb : ∀ e ∈ L, e.b ≠ c ∧ w.heap[e.b]? = some (.cells #[kv e.k, .int .i64 e.v, .int .i64 e.s, ptr c (n e.b), ptr c (o e.b)] 103 (0, 0))
section
variable {w w' : World} {c m : Nat} {E B H : Int} {L : List Ent} {o n : Nat → Nat}
theorem off_c (c : Nat) : off c c = 1 := if_pos rfl
theorem off_e {c x : Nat} (h : x ≠ c) : off c x = 0 := if_neg h
theorem Nodes.older (h : Nodes w c m E B H L o n) (x y : Nat) : Nodes (w.setCell ⟨x, off c x + 4, none⟩ (ptr c y)) c m E B H L (upd o x y) n := by
  refine ⟨?_, fun e he => ⟨(h.eb e he).1, ?_⟩⟩
  · by_cases hx : x = c
    · subst hx
      rw [off_c, upd_same]
      exact (blk_set h.cb 5 _).trans rfl
    · rw [upd_far _ (fun hh => hx hh.symm)]
      exact blk_far h.cb (fun hh => hx hh.symm) _
  · obtain ⟨h1, h2⟩ := h.eb e he
    by_cases hx : x = e.b
    · subst hx
      rw [off_e h1, upd_same]
      exact (blk_set h2 4 _).trans rfl
    · rw [upd_far _ (fun hh => hx hh.symm)]
      exact blk_far h2 (fun hh => hx hh.symm) _
theorem Nodes.newer (h : Nodes w c m E B H L o n) (x y : Nat) : Nodes (w.setCell ⟨x, off c x + 3, none⟩ (ptr c y)) c m E B H L o (upd n x y) := by
  refine ⟨?_, fun e he => ⟨(h.eb e he).1, ?_⟩⟩
  · by_cases hx : x = c
    · subst hx
      rw [off_c, upd_same]
      exact (blk_set h.cb 4 _).trans rfl
    · rw [upd_far _ (fun hh => hx hh.symm)]
      exact blk_far h.cb (fun hh => hx hh.symm) _
  · obtain ⟨h1, h2⟩ := h.eb e he
    by_cases hx : x = e.b
    · subst hx
      rw [off_e h1, upd_same]
      exact (blk_set h2 3 _).trans rfl
    · rw [upd_far _ (fun hh => hx hh.symm)]
      exact blk_far h2 (fun hh => hx hh.symm) _
theorem Nodes.entries (h : Nodes w c m E B H L o n) (E' : Int) : Nodes (w.setCell ⟨c, 6, none⟩ (.int .i64 E')) c m E' B H L o n :=
  ⟨(blk_set h.cb 6 _).trans rfl, fun e he => ⟨(h.eb e he).1, blk_far (h.eb e he).2 (h.eb e he).1 _⟩⟩
theorem Nodes.bytes (h : Nodes w c m E B H L o n) (B' : Int) : Nodes (w.setCell ⟨c, 7, none⟩ (.int .i64 B')) c m E B' H L o n :=
  ⟨(blk_set h.cb 7 _).trans rfl, fun e he => ⟨(h.eb e he).1, blk_far (h.eb e he).2 (h.eb e he).1 _⟩⟩
theorem Nodes.held (h : Nodes w c m E B H L o n) (H' : Int) : Nodes (w.setCell ⟨c, 8, none⟩ (.int .i64 H')) c m E B H' L o n :=
  ⟨(blk_set h.cb 8 _).trans rfl, fun e he => ⟨(h.eb e he).1, blk_far (h.eb e he).2 (h.eb e he).1 _⟩⟩
theorem Nodes.sub (h : Nodes w c m E B H L o n) {L' : List Ent} (hs : ∀ e ∈ L', e ∈ L) : Nodes w c m E B H L' o n := ⟨h.cb, fun e he => h.eb e (hs e he)⟩
/-- The blocks of the cache as they were: the nodes too. -/
theorem Nodes.keep (h : Nodes w c m E B H L o n) (hc : w'.heap[c]? = w.heap[c]?) (he : ∀ e ∈ L, w'.heap[e.b]? = w.heap[e.b]?) : Nodes w' c m E B H L o n :=
  ⟨hc.trans h.cb, fun e hh => ⟨(h.eb e hh).1, (he e hh).trans (h.eb e hh).2⟩⟩
theorem Nodes.at4 (h : Nodes w c m E B H L o n) {x : Nat} (hx : x = c ∨ ∃ e ∈ L, e.b = x) : w.cell? ⟨x, off c x + 4, none⟩ = some (ptr c (o x)) ∧ w.frozen? ⟨x, off c x + 4, none⟩ = false := by
  rcases hx with rfl | ⟨e, he, rfl⟩
  · rw [off_c]
    exact ⟨(blk_cell h.cb 5).trans rfl, blk_frozen h.cb 5⟩
  · obtain ⟨h1, h2⟩ := h.eb e he
    rw [off_e h1]
    exact ⟨(blk_cell h2 4).trans rfl, blk_frozen h2 4⟩
theorem Nodes.at3 (h : Nodes w c m E B H L o n) {x : Nat} (hx : x = c ∨ ∃ e ∈ L, e.b = x) : w.cell? ⟨x, off c x + 3, none⟩ = some (ptr c (n x)) ∧ w.frozen? ⟨x, off c x + 3, none⟩ = false := by
  rcases hx with rfl | ⟨e, he, rfl⟩
  · rw [off_c]
    exact ⟨(blk_cell h.cb 4).trans rfl, blk_frozen h.cb 4⟩
  · obtain ⟨h1, h2⟩ := h.eb e he
    rw [off_e h1]
    exact ⟨(blk_cell h2 3).trans rfl, blk_frozen h2 3⟩
end
/-! ### the map -/
/-- How a pointer to an entry reads: the block's number. -/
def PR : Value → Option (DataW Unit × List MemPlace)
  | .pointer none => some (.nil, [])
  | .pointer (some a) => if a = ⟨a.block, 0, none⟩ then some (.lit (.int .i64 a.block), []) else none
  | _ => none
theorem PR_mk (b : Nat) : PR (.pointer (some ⟨b, 0, none⟩)) = some (.lit (.int .i64 b), []) := by simp [PR]
theorem PR_inv {v : Value} {b : Nat} {ps : List MemPlace} (h : PR v = some (.lit (.int .i64 b), ps)) : v = .pointer (some ⟨b, 0, none⟩) := by
  unfold PR at h
  split at h
  · simp at h
  · rename_i a
    split at h
    · rename_i ha
      simp at h
      obtain ⟨h1, _⟩ := h
      have h2 : a.block = b := by omega
      rw [ha, h2]
    · simp at h
  · simp at h
theorem PR_nil {v : Value} {ps : List MemPlace} (h : PR v = some (.nil, ps)) : v = .pointer none := by
  unfold PR at h
  split at h
  · rfl
  · split at h <;> simp at h
  · simp at h
/-- Block m holds the map of the entries L. -/
def MapOf (w : World) (m : Nat) (L : List Ent) : Prop := ∃ D : DataW Unit, w.ownsMap Try.prog 9 PR m L.length D ∧ (∀ k, kok k → Maps.has D (klit k) = hasK k L) ∧ (∀ e ∈ L, kok e.k ∧ ∀ z, D.atKey (klit e.k) z = .lit (.int .i64 e.b)) ∧ Maps.size D = L.length
theorem tight {w : World} {b n : Nat} {D : DataW Unit} (h : w.ownsMap Try.prog 9 PR b n D) : w.ownsMap Try.prog 9 PR b (Maps.size D) D := by
  obtain ⟨es, clock, hb, F, _, rfl⟩ := h
  exact ⟨es, clock, hb, F, by simp [Maps.size, length_sorted], rfl⟩
theorem zero_ent (w : World) : (zeroValue 101).run Try.prog w = .ok (.pointer none) w := by kernel_rfl
section
variable {w w' : World} {m : Nat} {L : List Ent}
theorem MapOf.hit (h : MapOf w m L) {e : Ent} (he : e ∈ L) : (Instr.lookup 100 (.map (some m)) (kv e.k) true).run Try.prog w = .ok (.tuple #[.pointer (some ⟨e.b, 0, none⟩), .bool true]) w := by
  obtain ⟨D, h1, h2, h3, _⟩ := h
  obtain ⟨hk, hat⟩ := h3 e he
  obtain ⟨v, ps, hrun, hv⟩ := h1.look_ok keyed Try.underlying100 (zero_ent w) (zd := .nil) (zp := []) rfl (key_of hk)
  rw [hat] at hv
  rw [PR_inv hv, h2 _ hk, hasK_iff.2 ⟨e, he, rfl⟩] at hrun
  exact hrun
theorem MapOf.miss (h : MapOf w m L) {k : KT} (hk : kok k) (hm : hasK k L = false) : (Instr.lookup 100 (.map (some m)) (kv k) true).run Try.prog w = .ok (.tuple #[.pointer none, .bool false]) w := by
  obtain ⟨D, h1, h2, h3, _⟩ := h
  obtain ⟨v, ps, hrun, hv⟩ := h1.look_ok keyed Try.underlying100 (zero_ent w) (zd := .nil) (zp := []) rfl (key_of hk)
  have hh : Maps.has D (klit k) = false := (h2 k hk).trans hm
  rw [Maps.atKey_of_not_has hh] at hv
  rw [PR_nil hv, hh] at hrun
  exact hrun
theorem MapOf.len (h : MapOf w m L) (ty : TypeId) : (Builtin.len_ #[100] ty #[.map (some m)]).run Try.prog w = .ok (.int .i64 (L.length : Int)) w := by
  obtain ⟨D, h1, _, _, h4⟩ := h
  rw [← h4]
  exact h1.len Try.underlying100 ty
theorem MapOf.made (w : World) : MapOf (w.alloc (.map #[] 0)) w.heap.size [] := ⟨.map [], World.ownsMap_made w _ _ _, fun k _ => rfl, fun e he => by simp at he, rfl⟩
theorem MapOf.like (h : MapOf w m L) {L' : List Ent} (hl : L'.length = L.length) (hm : ∀ e, e ∈ L' ↔ e ∈ L) : MapOf w m L' := by
  obtain ⟨D, h1, h2, h3, h4⟩ := h
  refine ⟨D, hl ▸ h1, fun k hk => ?_, fun e he => h3 e ((hm e).1 he), h4.trans hl.symm⟩
  rw [h2 k hk, Bool.eq_iff_iff, hasK_iff, hasK_iff]
  exact ⟨fun ⟨e, he, hh⟩ => ⟨e, (hm e).2 he, hh⟩, fun ⟨e, he, hh⟩ => ⟨e, (hm e).1 he, hh⟩⟩
theorem MapOf.keep (h : MapOf w m L) (hm : w'.heap[m]? = w.heap[m]?) : MapOf w' m L := by
  obtain ⟨D, ⟨es, clock, hb, r⟩, h2⟩ := h
  exact ⟨D, ⟨es, clock, hm.trans hb, r⟩, h2⟩
theorem MapOf.lt (h : MapOf w m L) : m < w.heap.size := by obtain ⟨D, h1, _⟩ := h; exact h1.lt
/-- No block of cells is the map's. -/
theorem MapOf.ne (h : MapOf w m L) {g : Nat} {cs : Array Value} {t : TypeId} (hg : w.heap[g]? = some (.cells cs t (0, 0))) : m ≠ g := by
  rintro rfl
  obtain ⟨D, ⟨es, clock, hb, r⟩, h2⟩ := h
  rw [hb] at hg
  simp at hg
theorem rm_len {k : KT} (L : List Ent) : (rm k L).length ≤ L.length := List.length_filter_le _ _
theorem mem_rm {k : KT} {e : Ent} : e ∈ rm k L ↔ e ∈ L ∧ e.k ≠ k := by simp [rm]
theorem rm_size {k : KT} (hn : (L.map Ent.k).Nodup) : (rm k L).length + (if hasK k L then 1 else 0) = L.length := by
  induction L with
  | nil => rfl
  | cons e L ih =>
    rw [List.map_cons, List.nodup_cons] at hn
    have := ih hn.2
    by_cases hk : e.k = k
    · have hf : hasK k L = false := hasK_false.2 (fun e' he' hh => hn.1 (by rw [hk, ← hh]; exact List.mem_map_of_mem he'))
      have ht : hasK k (e :: L) = true := hasK_iff.2 ⟨e, by simp, hk⟩
      rw [hf] at this
      rw [ht]
      simp only [rm, List.filter_cons, hk, ne_eq, not_true_eq_false, decide_false, Bool.false_eq_true, if_false, if_true, List.length_cons] at this ⊢
      omega
    · have ht : hasK k (e :: L) = hasK k L := by simp [hasK, hk]
      rw [ht]
      simp only [rm, List.filter_cons, hk, ne_eq, not_false_eq_true, decide_true, if_true, List.length_cons] at this ⊢
      omega
theorem MapOf.drop (h : MapOf w m L) (hn : (L.map Ent.k).Nodup) {k : KT} (hk : kok k) : ∃ D : DataW Unit, w.ownsMap Try.prog 9 PR m L.length D ∧ ∀ w' : World, w'.ownsMap Try.prog 9 PR m L.length (D.del (klit k)) → MapOf w' m (rm k L) := by
  obtain ⟨D, h1, h2, h3, h4⟩ := h
  refine ⟨D, h1, fun w' h' => ?_⟩
  have hsz : Maps.size (D.del (klit k)) = (rm k L).length := by
    have e1 := Maps.size_del (h1.tidy keyed) (k := klit k)
    have e2 := rm_size (k := k) hn
    rw [h2 k hk] at e1
    omega
  refine ⟨_, hsz ▸ tight h', fun k' hk' => ?_, fun e he => ?_, hsz⟩
  · by_cases hkk : k' = k
    · subst hkk
      rw [Maps.has_del_same]
      exact (hasK_false.2 (fun e he => (mem_rm.1 he).2)).symm
    · rw [Maps.has_del_other (fun hh => hkk (klit_inj hh)), h2 k' hk', Bool.eq_iff_iff, hasK_iff, hasK_iff]
      exact ⟨fun ⟨e, he, hh⟩ => ⟨e, mem_rm.2 ⟨he, fun h => hkk (hh.symm.trans h)⟩, hh⟩, fun ⟨e, he, hh⟩ => ⟨e, (mem_rm.1 he).1, hh⟩⟩
  · obtain ⟨he, hne⟩ := mem_rm.1 he
    exact ⟨(h3 e he).1, fun z => by rw [Maps.atKey_del_other (fun hh => hne (klit_inj hh))]; exact (h3 e he).2 z⟩
theorem MapOf.put (h : MapOf w m L) (e : Ent) (hk : kok e.k) (hm : hasK e.k L = false) : ∃ D : DataW Unit, w.ownsMap Try.prog 9 PR m L.length D ∧ ∀ w' : World, w'.ownsMap Try.prog 9 PR m (L.length + 1) (D.put (klit e.k) (.lit (.int .i64 e.b))) → MapOf w' m (e :: L) := by
  obtain ⟨D, h1, h2, h3, h4⟩ := h
  refine ⟨D, h1, fun w' h' => ?_⟩
  have hsz : Maps.size (D.put (klit e.k) (.lit (.int .i64 e.b))) = (e :: L).length := by
    rw [Maps.size_put (h1.tidy keyed), h2 _ hk, hm, h4]
    rfl
  refine ⟨_, h', fun k' hk' => ?_, fun e' he' => ?_, hsz⟩
  · by_cases hkk : k' = e.k
    · subst hkk
      rw [Maps.has_put_same h1.isMap (key_lit hk)]
      exact (hasK_iff.2 ⟨e, by simp, rfl⟩).symm
    · rw [Maps.has_put_other (fun hh => hkk (klit_inj hh)), h2 k' hk']
      simp only [hasK, List.any_cons]
      rw [decide_eq_false (fun hh => hkk hh.symm), Bool.false_or]
  · rcases List.mem_cons.1 he' with rfl | he'
    · exact ⟨hk, fun z => Maps.atKey_put_same h1.isMap (key_lit hk) _ z⟩
    · have hne : e'.k ≠ e.k := hasK_false.1 hm e' he'
      exact ⟨(h3 e' he').1, fun z => by rw [Maps.atKey_put_other (fun hh => hne (klit_inj hh))]; exact (h3 e' he').2 z⟩
end
end Go.Proofs.Ytebmfbfmdbimdaa.F.Ls
