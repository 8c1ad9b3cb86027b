/- Package bidi: the weak classes, walked. Package slices: where SortFunc of pairs of whole numbers lies in the program (plain text of the laying, by the kit's tool). Package bidi: the pairs of brackets sorted, walked. Package bidi: the pairs of brackets, walked. Package bidi: the pairs of brackets told, walked. -/
import Derived.Test.YteoonjnmghponaaZBia
import Derived.Shelf.SlSortCmp.NoneTotal
import Derived.Ground.SlsfProg
import Derived.Test.YteoonjnmghponaaProg
import Derived.Deep.CutBlock
namespace Go.Proofs.Yteoonjnmghponaa.F
open Go.RowKit Go.Proofs.YteoonjnmghponaaW.PrintWords Go.Proofs.YteoonjnmghponaaW.PrintLast Go.Proofs.YteoonjnmghponaaW.PrintMore
set_option linter.unusedVariables false
set_option linter.unusedSimpArgs false
theorem opener_any (c : Int) : ∃ y : Bool, ∀ w : World, Calls Try.prog 64 #[.int .i64 c] w fun e w' => e = .returned (.bool y) ∧ ∃ q, w' = w.drewN q := by
  obtain ⟨y, hy⟩ : ∃ z, P.bidi_opener.f c = some z := by
    unfold P.bidi_opener.f
    repeat' split
    all_goals exact ⟨_, rfl⟩
  refine ⟨y, fun w => Calls.mono (P.bidi_opener.calls c y w hy) ?_⟩
  rintro e w' ⟨rfl, hw⟩
  exact ⟨rfl, by first | exact hw.out | exact ⟨0, hw⟩⟩
theorem of_ex {B : Nat} {t : TP} {s : SP} {W : World} (h : Sx B t s W) (k : Int) (h0 : 0 ≤ k) (h1 : k < s.at_.length) : Calls Try.prog 73 #[.pointer (some ⟨s.sp, 0, none⟩), .int .i64 k] W fun e w' => ∃ y : Int, e = .returned (.int .i64 y) ∧ ∃ q, w' = W.drewN q := by
  obtain ⟨y, hy⟩ := of_any h k h0 h1
  exact hy.mono fun e w' ⟨h1, h2⟩ => ⟨y, h1, h2⟩
/-- A callee that only draws, in a region that only reads, behind draws. -/
theorem quiet_plus {P : Program} {f : FuncId} {args : Array Value} {w : World} {a n : Nat} {v : Value} (h : ∀ W, Calls P f args W fun e w' => e = .returned v ∧ ∃ m, w' = W.drewN m) :
    Calls P f args (w.drewN (a + n)) fun e w' => e = .returned v ∧ ∃ m, w' = w.drewN (a + m) :=
  (h _).mono fun _ _ ⟨he, m, hm⟩ => ⟨he, n + m, hm.trans (by rw [World.drewN_drewN, Nat.add_assoc])⟩
theorem of_all {B : Nat} {t : TP} {s : SP} {W : World} (h : Sx B t s W) (k : Int) (h0 : 0 ≤ k) (h1 : k < s.at_.length) : ∃ y : Int, ∀ q, Calls Try.prog 73 #[.pointer (some ⟨s.sp, 0, none⟩), .int .i64 k] (W.drewN q) fun e w' => e = .returned (.int .i64 y) ∧ ∃ m, w' = (W.drewN q).drewN m := by
  obtain ⟨xs, ys, hx⟩ := h.tx
  exact ⟨_, fun q => of_calls (hx.below (pw_below_drewN (Below.refl _ _) q)) (h.sq.below (pw_below_drewN (Below.refl _ _) q)) k h0 h1⟩
/-- Inside weak: the sequence, what may change, the box. -/
structure Wk (B : Nat) (t : TP) (s : SP) (w : World) (W : World) : Prop where
  sx : Sx B t s W
  ch : Ch B t w W
  box : W.cell? ⟨w.heap.size, 0, none⟩ = some (.pointer (some ⟨s.sp, 0, none⟩))
section
variable {B : Nat} {t : TP} {s : SP} {w W W' : World}
theorem Wk.drewN (h : Wk B t s w W) (q : Nat) : Wk B t s w (W.drewN q) := ⟨h.sx.drewN q, h.ch.drewN q, h.box⟩
theorem Wk.to (h : Wk B t s w W) (hz : t.bN < w.heap.size ∧ t.bL < w.heap.size) (hs : Sx B t s W') (hc : Ch B t W W') : Wk B t s w W' :=
  ⟨hs, h.ch.trans hc, hc.cell h.box (by show w.heap.size ≠ _; omega) (by show w.heap.size ≠ _; omega)⟩
theorem Wk.setN (h : Wk B t s w W) (hz : t.bN < w.heap.size ∧ t.bL < w.heap.size) (z c : Int) (h0 : 0 ≤ z) (h1 : z < t.n) : Wk B t s w (W.setCell ⟨t.bN, z.toNat, none⟩ (.int .i64 c)) :=
  have k := h.sx.setN z c h0 h1
  h.to hz k.1 k.2
end
set_option maxRecDepth 100000 in
set_option maxHeartbeats 8000000 in
theorem weak_any {B : Nat} {t : TP} {s : SP} {w : World} (h : Sx B t s w) (hfew : s.at_.length < 4611686018427387904) (hz : t.bN < w.heap.size ∧ t.bL < w.heap.size) :
    Calls Try.prog 34 #[.pointer (some ⟨s.sp, 0, none⟩)] w fun e w' => e = .returned (.tuple #[]) ∧ Sx B t s w' ∧ Ch B t w w' := by
  have HW0 : Aside0 (Wk B t s w (w.alloc (Obj.cells #[Value.pointer (some { block := s.sp, off := 0 })] 84))) :=
    ⟨h.alloc _, (Ch.refl B t w).below h.lo (below_alloc (Below.refl _ _) _), (blk_cell (blk_new _ _) 0).trans rfl⟩
  have hc1 := HW0.out.sx.cells.2.1
  have hc3 := HW0.out.sx.cells.2.2.2.1
  have hsp := blk_lt h.sq.blk
  clear h
  go_enter Try.func34, Try.ntmps34
  go_wp2
  go_loopw [2, 21] (fun s2 s21 wr => ∃ (la : Int) (k : Int), s2 = .int .i64 la ∧ s21 = .int .i64 k ∧ Aside0 (0 ≤ k) ∧ Aside0 (Wk B t s w wr)) (fun s2 s21 _ => (s.at_.length - intOf s21).toNat)
  case atStart => exact ⟨_, 0, rfl, rfl, ⟨by omega⟩, HW0⟩
  case round =>
    obtain ⟨la, k, rfl, rfl, HK, HS⟩ := hrel
    have hk0 := HK.out
    have hbr := HS.out.box
    by_cases hlt : k < s.at_.length
    · have hd : decide (k < s.at_.length) = true := decide_eq_true hlt
      have hk1 : k < 9223372036854775807 := by omega
      have HLT := Aside0.mk hlt
      obtain ⟨xs, ys, hx⟩ := HS.out.sx.tx
      have hin := HS.out.sx.inn k hk0 hlt
      have hyl : (xs.length : Int) = t.n := by have := hx.lens; omega
      obtain ⟨cap, hv, _⟩ := hx.formN (by omega)
      have hlev := hx.now
      rw [hv] at hlev
      obtain ⟨hcl, _⟩ := Kd.R_celln 0 hlev (rd s.at_ k) hin.1 (by omega)
      obtain ⟨ad, had, ha⟩ := Kd.at_int HS.out.sx.sq.row k hk0 hlt
      have d0 : wr.cell? ⟨s.sp, 0, none⟩ = some (.pointer (some ⟨t.tp, 0, none⟩)) := HS.out.sx.cells.1
      have e1 : wr.cell? ⟨s.sp, 1, none⟩ = some (.slice s.Aa s.at_.length s.ca) := HS.out.sx.cells.2.1
      have d1 : wr.cell? ⟨t.tp, 1, none⟩ = some (.slice t.Af t.cs.length t.cf) := (blk_cell hx.blk 1).trans rfl
      have d3 : wr.cell? ⟨t.tp, 2, none⟩ = some (.slice (some ⟨t.bN, 0, none⟩) xs.length cap) := by rw [← hv]; exact (blk_cell hx.blk 2).trans rfl
      have hin1 := hin.1
      have hin2 : rd s.at_ k < xs.length := by omega
      by_cases hk : 0 < k
      · have hdk : decide (0 < k) = true := decide_eq_true hk
        have hwr : IntKind.i64.wrap (k - 1) = k - 1 := IntWalk.i64_in _ (by omega)
        obtain ⟨ad', had', ha'⟩ := Kd.at_int HS.out.sx.sq.row (k - 1) (by omega) (by omega)
        rw [show (k - 1).toNat = k.toNat - 1 by omega] at ha'
        have hh : ad' = ad := by rw [had] at had'; exact (Option.some.inj had').symm
        subst hh
        have hin' := HS.out.sx.inn (k - 1) (by omega) (by omega)
        have hcsl : (t.cs.length : Int) = t.n := by have := hx.lens; omega
        obtain ⟨af, haf, hf⟩ := Kd.at_int hx.rf (rd s.at_ (k - 1)) hin'.1 (by omega)
        have i1 := hin'.1
        have i2 : rd s.at_ (k - 1) < t.cs.length := by omega
        obtain ⟨yo, hyo⟩ := opener_any (rd t.cs (rd s.at_ (k - 1)))
        have HO := Aside0.mk hyo
        generalize hz1 : rd t.cs (rd s.at_ (k - 1)) = c1 at *
        generalize hz2 : rd s.at_ (k - 1) = z1 at *
        generalize hz3 : rd s.at_ k = z at *
        clear hv hlev hyl hyo had'
        rw [had]
        obtain ⟨d22, h22⟩ : ∃ d, (c1 == 22) = d := ⟨_, rfl⟩
        go_wp2_with (go_at_call 73; ((with_reducible refine Calls.mono (of_ex (B := B) (t := t) (s := s) ?_ k hk0 HLT.out) ?_); (repeat (first | exact HS.out.sx | apply Sx.drewN)); rintro e w1 ⟨y1, rfl, q1, rfl⟩))
        · cases yo <;> cases d22
          all_goals
          (refine wp_region_quiet_lit (by kernel_rfl) (by kernel_rfl) ?_
           repeat (first | go_big_quiet_step ((go_at_call 64; first | exact Calls.quiet_of (HO.out _) | exact quiet_plus HO.out)) | rw [hwr])
           refine wpQuiet_nil ?_
           intro _ hw'
           obtain ⟨nq, hw''⟩ := hw'
           subst hw''
           go_wp2_with (go_at_call 73; ((with_reducible refine Calls.mono (of_ex (B := B) (t := t) (s := s) ?_ k hk0 HLT.out) ?_); (repeat (first | exact HS.out.sx | apply Sx.drewN | refine (Sx.setN ?_ z _ hin.1 hin.2).1)); rintro e w1 ⟨y1, rfl, q1, rfl⟩))
           exact ⟨⟨_, k + 1, rfl, rfl, ⟨by omega⟩, ⟨by repeat (first | exact HS.out | apply Wk.drewN | refine (Wk.setN ?_ ‹_› z _ hin.1 hin.2))⟩⟩, by have := HLT.out; simp [intOf]; omega⟩)
        exact ⟨⟨_, k + 1, rfl, rfl, ⟨by omega⟩, ⟨by repeat (first | exact HS.out | apply Wk.drewN)⟩⟩, by have := HLT.out; simp [intOf]; omega⟩
      · have hdk : decide (0 < k) = false := decide_eq_false hk
        generalize hz3 : rd s.at_ k = z at *
        clear hv hlev hyl
        rw [had]
        go_wp2_with (go_at_call 73; ((with_reducible refine Calls.mono (of_ex (B := B) (t := t) (s := s) ?_ k hk0 HLT.out) ?_); (repeat (first | exact HS.out.sx | apply Sx.drewN)); rintro e w1 ⟨y1, rfl, q1, rfl⟩))
        · go_quiet (fail)
          go_wp2_with (go_at_call 73; ((with_reducible refine Calls.mono (of_ex (B := B) (t := t) (s := s) ?_ k hk0 HLT.out) ?_); (repeat (first | exact HS.out.sx | apply Sx.drewN | refine (Sx.setN ?_ z _ hin.1 hin.2).1)); rintro e w1 ⟨y1, rfl, q1, rfl⟩))
          exact ⟨⟨_, k + 1, rfl, rfl, ⟨by omega⟩, ⟨by repeat (first | exact HS.out | apply Wk.drewN | refine (Wk.setN ?_ ‹_› z _ hin.1 hin.2))⟩⟩, by have := HLT.out; simp [intOf]; omega⟩
        exact ⟨⟨_, k + 1, rfl, rfl, ⟨by omega⟩, ⟨by repeat (first | exact HS.out | apply Wk.drewN)⟩⟩, by have := HLT.out; simp [intOf]; omega⟩
    · have hd : decide (k < s.at_.length) = false := decide_eq_false hlt
      clear hlt
      have HZ := Aside0.mk hz
      go_wp2_with (go_at_call 74; ((with_reducible refine Calls.mono (backed_any (B := B) (t := t) (s := s) HS.out.sx 3 2 6 true) ?_); rintro e w1 ⟨rfl, hs1, hc1⟩; have HS1 := Aside0.mk (HS.out.to HZ.out hs1 hc1); have b1 := HS1.out.box; have f1 := HS1.out.sx.cells.2.1; clear hs1 hc1))
      go_loopw [93] (fun s93 wq => ∃ (k : Int), s93 = .int .i64 k ∧ Aside0 (0 ≤ k) ∧ Aside0 (Wk B t s w wq)) (fun s93 _ => (s.at_.length - intOf s93).toNat)
      case atStart => exact ⟨0, rfl, ⟨by omega⟩, HS1⟩
      case round =>
        clear b1 f1 HS1 hbr HK hk0 hd HS
        obtain ⟨k, rfl, HK, HS⟩ := hrel
        have hk0 := HK.out
        have hbr := HS.out.box
        have e1 := HS.out.sx.cells.2.1
        by_cases hlt : k < s.at_.length
        · have hd : decide (k < s.at_.length) = true := decide_eq_true hlt
          have hk1 : k < 9223372036854775807 := by omega
          have HLT := Aside0.mk hlt
          clear hlt
          go_wp2_with (first | (go_at_call 73; ((with_reducible refine Calls.mono (of_ex (B := B) (t := t) (s := s) ?_ k hk0 HLT.out) ?_); (repeat (first | exact HS.out.sx | apply Sx.drewN)); rintro e w1 ⟨y1, rfl, q1, rfl⟩)) | (go_at_call 75; ((with_reducible refine Calls.mono (become_any (B := B) (t := t) (s := s) ?_ k _ hk0 HLT.out) ?_); (repeat (first | exact HS.out.sx | apply Sx.drewN)); rintro e w3 ⟨rfl, hs1, hc1⟩; have HS9 := Aside0.mk (Wk.to (by repeat (first | exact HS.out | apply Wk.drewN)) HZ.out hs1 hc1); clear hs1 hc1)))
          all_goals exact ⟨⟨k + 1, rfl, ⟨by omega⟩, by first | exact HS9 | exact ⟨by repeat (first | exact HS.out | apply Wk.drewN)⟩⟩, by have := HLT.out; simp [intOf]; omega⟩
        · have hd : decide (k < s.at_.length) = false := decide_eq_false hlt
          clear hlt
          go_wp2
          go_loopw [6] (fun s6 wq => ∃ (k : Int), s6 = .int .i64 k ∧ Aside0 (1 ≤ k ∧ k ≤ s.at_.length + 1) ∧ Aside0 (Wk B t s w wq)) (fun s6 _ => (s.at_.length - intOf s6).toNat)
          case atStart => exact ⟨1, rfl, ⟨by omega⟩, HS⟩
          case round =>
            clear hbr HK hk0 hd HS
            obtain ⟨k, rfl, HK, HS⟩ := hrel
            have hk1 := HK.out.1
            have hk2 := HK.out.2
            have hk0 : 0 ≤ k := by omega
            have hk3 : k < 9223372036854775806 := by omega
            have hbr := HS.out.box
            have e1 := HS.out.sx.cells.2.1
            by_cases hlt : k + 1 < s.at_.length
            · have hd : decide (k + 1 < s.at_.length) = true := decide_eq_true hlt
              have HLT0 := Aside0.mk hlt
              have HLT : Aside0 (k < s.at_.length) := ⟨by omega⟩
              obtain ⟨ya, hya⟩ := of_all HS.out.sx (k - 1) (by omega) (by omega)
              obtain ⟨yb, hyb⟩ := of_all HS.out.sx (k + 1) (by omega) (by omega)
              have HA := Aside0.mk hya
              have HB := Aside0.mk hyb
              have hwr : IntKind.i64.wrap (k - 1) = k - 1 := IntWalk.i64_in _ (by omega)
              have hwr2 : IntKind.i64.wrap (k + 1) = k + 1 := IntWalk.i64_in _ (by omega)
              clear hlt hya hyb
              go_wp2
              refine wp_region_quiet_lit (by kernel_rfl) (by kernel_rfl) ?_
              repeat (first | rw [hwr] | rw [hwr2] | go_big_quiet_step ((go_at_call 73; first | with_reducible exact Calls.quiet_of (HA.out _) | with_reducible exact Calls.quiet_of (HB.out _))))
              refine wpQuiet_nil ?_
              intro _ hw'
              obtain ⟨nq, hw''⟩ := hw'
              subst hw''
              go_wp2_with (first | (go_at_call 73; ((with_reducible refine Calls.mono (of_ex (B := B) (t := t) (s := s) ?_ k hk0 HLT.out) ?_); (repeat (first | exact HS.out.sx | apply Sx.drewN)); rintro e w1 ⟨y1, rfl, q1, rfl⟩)) | (go_at_call 75; ((with_reducible refine Calls.mono (become_any (B := B) (t := t) (s := s) ?_ k _ hk0 HLT.out) ?_); (repeat (first | exact HS.out.sx | apply Sx.drewN)); rintro e w3 ⟨rfl, hs1, hc1⟩; have HS9 := Aside0.mk (Wk.to (by repeat (first | exact HS.out | apply Wk.drewN)) HZ.out hs1 hc1); clear hs1 hc1)))
              all_goals exact ⟨⟨k + 1, rfl, ⟨by have := HLT0.out; omega⟩, by first | exact HS9 | exact ⟨by repeat (first | exact HS.out | apply Wk.drewN)⟩⟩, by have := HLT.out; simp [intOf]; omega⟩
            · have hd : decide (k + 1 < s.at_.length) = false := decide_eq_false hlt
              clear hlt
              go_wp2_with fail
              refine Calls.mono (sqrows_any HS.out.sx hfew 77 78 #[] _ (fun _ _ => rfl) (fun _ _ => rfl) weak1_any (fun a b W h0 h1 h2 hS hC => weak2_any hS w.heap.size (hC.cell HS.out.box (by show w.heap.size ≠ _; have := HZ.out; omega) (by show w.heap.size ≠ _; have := HZ.out; omega)) hfew a b h0 h1 h2)) ?_
              rintro e w1 ⟨rfl, hs1, hc1⟩
              have HS1 := Aside0.mk (HS.out.to HZ.out hs1 hc1)
              have b1 := HS1.out.box
              have f1 := HS1.out.sx.cells.2.1
              clear hs1 hc1
              go_wp2
              go_loopw [160] (fun s160 wq => ∃ (k : Int), s160 = .int .i64 k ∧ Aside0 (0 ≤ k) ∧ Aside0 (Wk B t s w wq)) (fun s160 _ => (s.at_.length - intOf s160).toNat)
              case atStart => exact ⟨0, rfl, ⟨by omega⟩, HS1⟩
              case round =>
                clear b1 f1 HS1 hbr e1 HK hk0 hd HS
                obtain ⟨k, rfl, HK, HS⟩ := hrel
                have hk0 := HK.out
                have hbr := HS.out.box
                have e1 := HS.out.sx.cells.2.1
                by_cases hlt : k < s.at_.length
                · have hd : decide (k < s.at_.length) = true := decide_eq_true hlt
                  have hk1 : k < 9223372036854775807 := by omega
                  have HLT := Aside0.mk hlt
                  clear hlt
                  go_wp2_with (first | (go_at_call 73; ((with_reducible refine Calls.mono (of_ex (B := B) (t := t) (s := s) ?_ k hk0 HLT.out) ?_); (repeat (first | exact HS.out.sx | apply Sx.drewN)); rintro e w1 ⟨y1, rfl, q1, rfl⟩)) | (go_at_call 75; ((with_reducible refine Calls.mono (become_any (B := B) (t := t) (s := s) ?_ k _ hk0 HLT.out) ?_); (repeat (first | exact HS.out.sx | apply Sx.drewN)); rintro e w3 ⟨rfl, hs1, hc1⟩; have HS9 := Aside0.mk (Wk.to (by repeat (first | exact HS.out | apply Wk.drewN)) HZ.out hs1 hc1); clear hs1 hc1)))
                  all_goals exact ⟨⟨k + 1, rfl, ⟨by omega⟩, by first | exact HS9 | exact ⟨by repeat (first | exact HS.out | apply Wk.drewN)⟩⟩, by have := HLT.out; simp [intOf]; omega⟩
                · have hd : decide (k < s.at_.length) = false := decide_eq_false hlt
                  clear hlt
                  go_wp2_with (go_at_call 74; ((with_reducible refine Calls.mono (backed_any (B := B) (t := t) (s := s) HS.out.sx 3 0 0 false) ?_); rintro e w1 ⟨rfl, hs1, hc1⟩; have HS1 := Aside0.mk (HS.out.to HZ.out hs1 hc1); clear hs1 hc1))
                  go_returns
                  exact ⟨rfl, HS1.out.sx, HS1.out.ch⟩
end Go.Proofs.Yteoonjnmghponaa.F
namespace Go.Proofs
open Go.Shelf
def Try.sortPr_ren : Go.Shelf.Ren := ⟨fun | 6 => 106 | 15 => 111 | 14 => 115 | 28 => 126 | 29 => 127 | 20 => 131 | 21 => 132 | 22 => 133 | 23 => 134 | 24 => 135 | 25 => 136 | 26 => 137 | 27 => 138 | 46 => 147 | 47 => 141 | 48 => 142 | 49 => 148 | 50 => 149 | 57 => 152 | n => n, fun | 22 => 44 | 24 => 47 | 25 => 155 | 3 => 3 | 39 => 90 | 0 => 0 | 53 => 115 | 55 => 176 | 4 => 4 | 46 => 168 | 45 => 167 | 50 => 172 | 5 => 5 | 9 => 9 | 66 => 188 | 70 => 192 | 76 => 199 | 77 => 109 | n => n, fun | n => n⟩
theorem Try.sortPr : Go.Proofs.SlLaysF0.n6 Try.prog Try.sortPr_ren := {
  mixed := by kernel_rfl
  f6 := ⟨Try.f106.name, by decide, Try.func106.trans (congrArg some (by kernel_rfl))⟩
  f14 := ⟨Try.f115.name, by decide, Try.func115.trans (congrArg some (by kernel_rfl))⟩
  f15 := Try.func111.trans (congrArg some (by kernel_rfl))
  f20 := ⟨Try.f131.name, by decide, Try.func131.trans (congrArg some (by kernel_rfl))⟩
  f21 := ⟨Try.f132.name, by decide, Try.func132.trans (congrArg some (by kernel_rfl))⟩
  f22 := ⟨Try.f133.name, by decide, Try.func133.trans (congrArg some (by kernel_rfl))⟩
  f23 := ⟨Try.f134.name, by decide, Try.func134.trans (congrArg some (by kernel_rfl))⟩
  f24 := ⟨Try.f135.name, by decide, Try.func135.trans (congrArg some (by kernel_rfl))⟩
  f25 := ⟨Try.f136.name, by decide, Try.func136.trans (congrArg some (by kernel_rfl))⟩
  f26 := ⟨Try.f137.name, by decide, Try.func137.trans (congrArg some (by kernel_rfl))⟩
  f27 := ⟨Try.f138.name, by decide, Try.func138.trans (congrArg some (by kernel_rfl))⟩
  f28 := Try.func126.trans (congrArg some (by kernel_rfl))
  f29 := Try.func127.trans (congrArg some (by kernel_rfl))
  f46 := ⟨Try.f147.name, by decide, Try.func147.trans (congrArg some (by kernel_rfl))⟩
  f47 := Try.func141.trans (congrArg some (by kernel_rfl))
  f48 := Try.func142.trans (congrArg some (by kernel_rfl))
  f49 := ⟨Try.f148.name, by decide, Try.func148.trans (congrArg some (by kernel_rfl))⟩
  f50 := ⟨Try.f149.name, by decide, Try.func149.trans (congrArg some (by kernel_rfl))⟩
  f57 := ⟨Try.f152.name, by decide, Try.func152.trans (congrArg some (by kernel_rfl))⟩
  t0 := Try.underlying0
  a0 := Try.isAgg0
  z0 := Try.sizeOf0
  v0 := Try.zeroValue0
  t3 := Try.underlying3
  a3 := Try.isAgg3
  z3 := Try.sizeOf3
  v3 := Try.zeroValue3
  t4 := Try.underlying4
  a4 := Try.isAgg4
  z4 := Try.sizeOf4
  v4 := Try.zeroValue4
  t5 := Try.underlying5
  a5 := Try.isAgg5
  z5 := Try.sizeOf5
  v5 := Try.zeroValue5
  t9 := Try.underlying9
  a9 := Try.isAgg9
  z9 := Try.sizeOf9
  v9 := Try.zeroValue9
  t22 := Try.underlying44
  a22 := Try.isAgg44
  z22 := Try.sizeOf44
  v22 := Try.zeroValue44
  t25 := Try.underlying155
  a25 := Try.isAgg155
  z25 := Try.sizeOf155
  v25 := Try.zeroValue155
  t39 := Try.underlying90
  a39 := Try.isAgg90
  z39 := Try.sizeOf90
  v39 := Try.zeroValue90
  t45 := Try.underlying167
  a45 := Try.isAgg167
  z45 := Try.sizeOf167
  v45 := Try.zeroValue167
  t46 := Try.underlying168
  a46 := Try.isAgg168
  z46 := Try.sizeOf168
  v46 := Try.zeroValue168
  t50 := Try.underlying172
  a50 := Try.isAgg172
  z50 := Try.sizeOf172
  v50 := Try.zeroValue172
  t53 := Try.underlying115
  a53 := Try.isAgg115
  z53 := Try.sizeOf115
  v53 := Try.zeroValue115
  t55 := Try.underlying176
  a55 := Try.isAgg176
  z55 := Try.sizeOf176
  v55 := Try.zeroValue176
  t66 := Try.underlying188
  a66 := Try.isAgg188
  z66 := Try.sizeOf188
  v66 := Try.zeroValue188
  t70 := Try.underlying192
  a70 := Try.isAgg192
  z70 := Try.sizeOf192
  v70 := Try.zeroValue192
  t76 := Try.underlying199
  a76 := Try.isAgg199
  z76 := Try.sizeOf199
  v76 := Try.zeroValue199
  t77 := Try.underlying109
  a77 := Try.isAgg109
  z77 := Try.sizeOf109
  v77 := Try.zeroValue109 }
end Go.Proofs
namespace Go.Proofs.Yteoonjnmghponaa.F
open Go.RowKit Go.Proofs.YteoonjnmghponaaW.PrintWords Go.Proofs.YteoonjnmghponaaW.PrintLast Go.Proofs.YteoonjnmghponaaW.PrintMore
set_option linter.unusedVariables false
set_option linter.unusedSimpArgs false
/-- Pairs of places, to be read. -/
structure Pq (N : Nat) (L : Int) (W : World) (v : Value) (l : List P.S47) : Prop where
  form : ∃ A c, v = .slice A l.length c ∧ Kd.C P.k47 W A l.length l ∧ ∀ ad, A = some ad → N ≤ ad.block
  inn : ∀ p ∈ l, 0 ≤ p.f0 ∧ p.f0 < L ∧ 0 ≤ p.f1 ∧ p.f1 < L
/-- Two numbers in a range. -/
abbrev PR (L : Int) : Type := {p : Int × Int // 0 ≤ p.1 ∧ p.1 < L ∧ 0 ≤ p.2 ∧ p.2 < L}
def encR {L : Int} (x : PR L) : List Value := [.int .i64 x.1.1, .int .i64 x.1.2]
def cfR {L : Int} (x y : PR L) : Int := x.1.1 - y.1.1
theorem ltR {L : Int} (x y : PR L) : ltOf cfR x y = decide (x.1.1 < y.1.1) := by
  unfold ltOf cfR
  exact decide_eq_decide.mpr (by omega)
theorem swoR (L : Int) : Sort.SWO (ltOf (cfR (L := L))) where
  irrefl x := by rw [ltR]; simp
  trans x y z h1 h2 := by rw [ltR] at *; simp at *; omega
  ntrans x y z h1 h2 := by rw [ltR] at *; simp at *; omega
set_option maxHeartbeats 1000000 in
theorem closeR (L : Int) (hL : L ≤ 16384) (x y : PR L) (W : World) : Calls Try.prog 107 #[.agg (encR x).toArray, .agg (encR y).toArray] W fun e w' => e = .returned (.int .i64 (cfR x y)) ∧ ∃ q os', w' = Sort.grow (W.drewN q) os' := by
  obtain ⟨⟨a, b⟩, hx⟩ := x
  obtain ⟨⟨c, d⟩, hy⟩ := y
  unfold encR cfR
  have hx0 : 0 ≤ a := hx.1
  have hx1 : a < L := hx.2.1
  have hy0 : 0 ≤ c := hy.1
  have hy1 : c < L := hy.2.1
  show Calls Try.prog _ #[.agg #[.int .i64 a, .int .i64 b], .agg #[.int .i64 c, .int .i64 d]] W fun e w' => e = .returned (.int .i64 (a - c)) ∧ ∃ q os', w' = Sort.grow (W.drewN q) os'
  clear hx hy
  go_enter Try.func107, Try.ntmps107
  go_wp2
  go_ret
  exact ⟨rfl, 0, _, by rw [Sort.alloc_eq_grow, Sort.alloc_eq_grow, Sort.grow_grow]; rfl⟩
theorem elemR {w W : World} {g cap : Nat} {xs : List P.S47} (hr : P.k47.R 47 W w.heap.size (fun _ => True) (.slice (some ⟨g, 0, none⟩) xs.length cap) xs) (i : Nat) (hi : i < xs.length) (c : Nat) (hc : c < 2) :
    W.cell? ⟨g, i * 2 + c, none⟩ = some ([Value.int .i64 (xs[i]).f0, .int .i64 (xs[i]).f1][c]!) ∧ W.frozen? ⟨g, i * 2 + c, none⟩ = false := by
  obtain ⟨cs, hl, hM, h1, h2⟩ := Kd.R_elem hr P.z47 i (by omega) (by omega)
  have e := P.k47_openM hM
  have hg : xs.getD (Int.toNat i) P.z47 = xs[i] := by
    rw [List.getD_eq_getElem?_getD, Int.toNat_natCast, List.getElem?_eq_getElem hi]
    rfl
  rw [hg] at e
  have h3 := h2 c
  rw [Int.toNat_natCast] at h3
  refine ⟨?_, h3⟩
  have := h1 c ([Value.int .i64 (xs[i]).f0, .int .i64 (xs[i]).f1][c]!) (by subst e; rcases c with _ | _ | c <;> first | rfl | omega)
  rw [Int.toNat_natCast] at this
  exact this
theorem belowSort {w W : World} {L : Int} [Inhabited (PR L)] (hb : Below w.heap.size w W) {g : Nat} (hg : w.heap.size ≤ g) (hg1 : g < W.heap.size) (n : Nat) (d : Array (PR L)) (os : Array Obj) : Below w.heap.size w (sortWorldK encR 2 W g 0 n d os) := by
  refine hb.trans ⟨rfl, rfl, rfl, ?_, fun k hk => ?_⟩
  · unfold sortWorldK Sort.putRowK
    rw [Sort.size_grow, Sort.size_putRow]
    exact Nat.le_add_right _ _
  · have hkW : k < W.heap.size := Nat.lt_of_lt_of_le hk hb.size
    unfold sortWorldK Sort.putRowK
    rw [Sort.heap_grow_old _ _ (by rw [Sort.size_putRow]; exact hkW)]
    show (W.heap.modify g _)[k]? = _
    rw [Array.getElem?_modify, if_neg (by omega)]
theorem sort_any {w W : World} {v : Value} {xs : List P.S47} {L : Int} (hr : P.k47.R 47 W w.heap.size (fun _ => True) v xs) (hb : Below w.heap.size w W) (hx : ∀ p ∈ xs, 0 ≤ p.f0 ∧ p.f0 < L ∧ 0 ≤ p.f1 ∧ p.f1 < L) (hL : L ≤ 16384) (hlen : xs.length ≤ 16384) :
    Calls Try.prog 106 #[v, .func (.func 107) #[] #[]] W fun e w' => e = .returned (.tuple #[]) ∧ Below w.heap.size w w' ∧ ∃ l, Pq w.heap.size L w' v l := by
  rcases Nat.eq_zero_or_pos xs.length with h0 | h0
  · obtain ⟨A, c, hv, _, hC⟩ := Kd.R_reads hr
    subst hv
    have hcon := AnyF.slices_SortFunc_none { Try.sortPr with } A c (.func (.func 107) #[] #[]) W
    rw [h0]
    refine Calls.mono hcon ?_
    rintro e w' ⟨rfl, rfl⟩
    exact ⟨rfl, hb, [], ⟨A, c, by simp, by rw [h0] at hC; rw [List.length_eq_zero_iff.mp h0] at hC; exact hC, fun ad e => Kd.R_base hr _ (by rw [e]; rfl)⟩, by simp⟩
  · obtain ⟨g, cap, hv, hg, hg1, _⟩ := Kd.R_form hr h0
    subst hv
    have hL0 : 0 < L := by
      have := hx xs[0] (List.getElem_mem h0)
      omega
    letI : Inhabited (PR L) := ⟨⟨(0, 0), by simp; omega⟩⟩
    obtain ⟨d, hd1, hd2⟩ : ∃ d : Array (PR L), d.size = xs.length ∧ ∀ i (h : i < xs.length), encR d[i]! = [Value.int .i64 (xs[i]).f0, .int .i64 (xs[i]).f1] := by
      refine ⟨(xs.attach.map fun p => (⟨(p.1.f0, p.1.f1), hx _ p.2⟩ : PR L)).toArray, by simp, fun i h => ?_⟩
      rw [getElem!_pos _ i (by simpa using h)]
      simp [encR]
    have hH : Sort.HoldsK encR 2 W g 0 d := by
      intro t ht
      rw [Sort.size_flatK, hd1] at ht
      rw [Sort.get_flatK _ _ _ _ (by rw [hd1]; exact ht), Nat.zero_add, hd2 _ (by omega)]
      have := elemR hr (t / 2) (by omega) (t % 2) (Nat.mod_lt _ (by decide))
      rw [show t / 2 * 2 + t % 2 = t by omega] at this
      exact this
    have eg : ∀ args w, (callFunc 107 args).run Try.prog w = .ok (.enter 107 args) w := enters_of Try.func107 (by kernel_rfl) rfl
    have hcon := AnyQ.slices_SortFunc Try.sortPr 2 Try.isAgg47 Try.sizeOf47 (encR (L := L)) (fun _ => rfl) (fun x v hv => by simp [encR] at hv; rcases hv with rfl | rfl <;> rfl) cfR (swoR L) 107 #[] g 0 cap d W eg (fun m os dk _ x y => closeR L hL x y _) hH hg1 (by rw [hd1]; omega)
    rw [hd1] at hcon
    refine Calls.mono hcon ?_
    rintro e w' ⟨rfl, d', n, os, hp, _, rfl⟩
    have hs : d'.size = xs.length := hp.1.trans hd1
    refine ⟨rfl, belowSort hb hg hg1 n d' os, d'.toList.map fun p => ⟨p.1.1, p.1.2⟩, ⟨some ⟨g, 0, none⟩, cap, by simp [hs], ?_, fun ad e => by cases e; exact hg⟩, ?_⟩
    · have hH' := holdsK_sortWorldK_c encR 2 W g 0 d d' n os hH hg1 hp.1
      refine ⟨rfl, by simp; omega, fun _ => ⟨_, rfl, fun j p hj => ?_⟩⟩
      have hjl : j < d'.size := by
        have := (List.getElem?_eq_some_iff.mp hj).1
        simpa using this
      obtain rfl : (⟨d'[j]!.1.1, d'[j]!.1.2⟩ : P.S47) = p := by
        rw [List.getElem?_map, Array.getElem?_toList, Array.getElem?_eq_getElem hjl] at hj
        rw [getElem!_pos _ j hjl]
        simpa using hj
      refine ⟨_, rfl, P.k47_mk _ _, fun i u hu => ?_⟩
      have hi2 : i < 2 := by
        have := (List.getElem?_eq_some_iff.mp hu).1
        simpa using this
      have hc := (Sort.HoldsK.cell hH' hjl hi2).1
      rw [Nat.zero_add] at hc
      show _ = some u
      have e2 : (encR d'[j]!)[i]! = u := by
        rcases i with _ | _ | i
        · simpa [encR] using hu
        · simpa [encR] using hu
        · omega
      rw [e2] at hc
      show (sortWorldK encR 2 W g 0 n d' os).cell? ((⟨g, 0, none⟩ : Addr).add (j * 2 + i)) = some u
      rw [add_plain]
      exact hc
    · intro p hp'
      obtain ⟨q, _, rfl⟩ := List.mem_map.mp hp'
      exact q.2
end Go.Proofs.Yteoonjnmghponaa.F
namespace Go.Proofs.Yteoonjnmghponaa.F
open Go.RowKit Go.Proofs.YteoonjnmghponaaW.PrintWords Go.Proofs.YteoonjnmghponaaW.PrintLast Go.Proofs.YteoonjnmghponaaW.PrintMore
set_option linter.unusedVariables false
set_option linter.unusedSimpArgs false
theorem bracket_any (c : Int) : ∃ o kd : Int, ∀ w : World, Calls Try.prog 105 #[.int .i64 c] w fun e w' => e = .returned (.tuple #[.int .i64 o, .int .i64 kd]) ∧ Below w.heap.size w w' := by
 obtain ⟨⟨o, kd⟩, h⟩ : ∃ r, P.ucd_Bracket.f c = some r := by
  unfold P.ucd_Bracket.f F.ucd_other.f
  rw [if_pos (by decide)]
  exact ⟨_, rfl⟩
 exact ⟨o, kd, fun w => P.ucd_Bracket.calls c o kd w h⟩
theorem Pq.nil (N : Nat) (L : Int) (W : World) : Pq N L W (.slice none 0 0) [] := by
 obtain ⟨A, c, e, _, hC⟩ := Kd.R_reads (Kd.R_nil P.k47 47 W 0 (fun _ => True))
 cases e
 exact ⟨⟨none, 0, rfl, hC, fun ad e => nomatch e⟩, by simp⟩
theorem in_T47 {l : List P.S47} {j : Int} (h0 : 0 ≤ j) (h1 : j < l.length) : P.rd_T47 l j ∈ l := by
 unfold P.rd_T47
 rw [List.getD_eq_getElem?_getD, List.getElem?_eq_getElem (by omega)]
 exact List.getElem_mem (by omega)
/-- Two rows of pairs in the making, apart. -/
structure Two (L : Int) (w W : World) (k : Int) (vo vp : Value) (xs ys : List P.S47) : Prop where
 be : Below w.heap.size w W
 o : P.k47.R 47 W w.heap.size (fun _ => True) vo xs
 p : P.k47.R 47 W w.heap.size (fun _ => True) vp ys
 ne : vo.ownBlock = none ∨ vo.ownBlock ≠ vp.ownBlock
 lx : (xs.length : Int) ≤ k
 ly : (ys.length : Int) ≤ k
 rx : ∀ p ∈ xs, 0 ≤ p.f0 ∧ p.f0 < L ∧ 0 ≤ p.f1 ∧ p.f1 < L
 ry : ∀ p ∈ ys, 0 ≤ p.f0 ∧ p.f0 < L
section
variable {L : Int} {w W W' : World} {k : Int} {vo vp v1 : Value} {xs ys : List P.S47}
theorem Two.drewN (h : Two L w W k vo vp xs ys) (q : Nat) : Two L w (W.drewN q) k vo vp xs ys :=
 ⟨pw_below_drewN h.be q, Kd.R_drewN h.o q, Kd.R_drewN h.p q, h.ne, h.lx, h.ly, h.rx, h.ry⟩
theorem Two.below (h : Two L w W k vo vp xs ys) (hb : Below W.heap.size W W') : Two L w W' k vo vp xs ys :=
 ⟨below_step h.be hb, Kd.R_below h.o hb, Kd.R_below h.p hb, h.ne, h.lx, h.ly, h.rx, h.ry⟩
theorem Two.next (h : Two L w W k vo vp xs ys) : Two L w W (k + 1) vo vp xs ys :=
 ⟨h.be, h.o, h.p, h.ne, by have := h.lx; omega, by have := h.ly; omega, h.rx, h.ry⟩
theorem Two.openn (h : Two L w W k vo vp xs ys) (x : P.S47) (hx : 0 ≤ x.f0 ∧ x.f0 < L) (hr : P.k47.R 47 W' w.heap.size (fun _ => True) v1 (ys ++ [x])) (hb : Below w.heap.size w W') (hg : W.grownBy W' vp.ownBlock) (hat : v1.ownBlock = vp.ownBlock ∨ ∃ b, v1.ownBlock = some b ∧ W.heap.size ≤ b) : Two L w W' (k + 1) vo v1 xs (ys ++ [x]) := by
 refine ⟨hb, Kd.R_grown2 h.o rfl hg ?_, hr, ?_, by have := h.lx; omega, by have := h.ly; simp; omega, h.rx, ?_⟩
 ·intro j hj he
  rcases h.ne with n | n
  ·rw [n] at he; cases he
  ·exact n (he.symm.trans hj.symm)
 ·rcases h.ne with n | n
  ·exact .inl n
  ·rcases hat with e | ⟨b, e, hle⟩
   ·right; rw [e]; exact n
   ·right
    intro he
    have := Kd.R_lt h.o b (he.trans e)
    omega
 ·intro p hp
  rcases List.mem_append.mp hp with hp | hp
  ·exact h.ry p hp
  ·rw [List.mem_singleton.mp hp]; exact hx
theorem Two.outt (h : Two L w W k vo vp xs ys) (x : P.S47) (hx : 0 ≤ x.f0 ∧ x.f0 < L ∧ 0 ≤ x.f1 ∧ x.f1 < L) (hr : P.k47.R 47 W' w.heap.size (fun _ => True) v1 (xs ++ [x])) (hb : Below w.heap.size w W') (hg : W.grownBy W' vo.ownBlock) (hat : v1.ownBlock = vo.ownBlock ∨ ∃ b, v1.ownBlock = some b ∧ W.heap.size ≤ b) : Two L w W' (k + 1) v1 vp (xs ++ [x]) ys := by
 refine ⟨hb, hr, Kd.R_grown2 h.p rfl hg ?_, ?_, by have := h.lx; simp; omega, by have := h.ly; omega, ?_, h.ry⟩
 ·intro j hj he
  rcases h.ne with n | n
  ·rw [n] at hj; cases hj
  ·exact n (hj.trans he)
 ·rcases hat with e | ⟨b, e, hle⟩
  ·rw [e]; exact h.ne
  ·right
   intro he
   have := Kd.R_lt h.p b (he.symm.trans e)
   omega
 ·intro p hp
  rcases List.mem_append.mp hp with hp | hp
  ·exact h.rx p hp
  ·rw [List.mem_singleton.mp hp]; exact hx
theorem Two.pop {A : Option Addr} {n c : Nat} (h : Two L w W k vo (.slice A n c) xs ys) (m : Nat) (hm : m ≤ ys.length) : Two L w W k vo (.slice A m c) xs (ys.take m) := by
 refine ⟨h.be, h.o, Kd.R_take h.p hm, ?_, h.lx, by have := h.ly; rw [List.length_take]; omega, h.rx, fun p hp => h.ry p (List.mem_of_mem_take hp)⟩
 have e : (Value.slice A m c).ownBlock = (Value.slice A n c).ownBlock := by cases A <;> rfl
 rw [e]
 exact h.ne
end
set_option maxRecDepth 100000 in
set_option maxHeartbeats 4000000 in
theorem pairs_any {B : Nat} {t : TP} {s : SP} {w : World} (h : Sx B t s w) (hfew : s.at_.length ≤ 16384) :
  Calls Try.prog 80 #[.pointer (some ⟨s.sp, 0, none⟩)] w fun e w' => Below w.heap.size w w' ∧ ∃ v l, e = .returned v ∧ Pq w.heap.size s.at_.length w' v l := by
 have HS0 := Aside0.mk h
 have hc1 := h.cells.2.1
 clear h
 go_enter Try.func80, Try.ntmps80
 go_wp2
 go_loopw [3, 4, 15] (fun s3 s4 s15 wr => ∃ (k : Int) (xs ys : List P.S47), s15 = .int .i64 k ∧ Aside0 (0 ≤ k ∧ k ≤ s.at_.length) ∧ Aside0 (Two s.at_.length w wr k s3 s4 xs ys)) (fun _ _ s15 _ => (s.at_.length - intOf s15).toNat)
 case atStart => exact ⟨0, [], [], rfl, ⟨by omega⟩, ⟨Below.refl _ _, Kd.R_nil _ _ _ _ _, Kd.R_nil _ _ _ _ _, .inl rfl, by simp, by simp, by simp, by simp⟩⟩
 case round =>
  obtain ⟨k, xs, ys, rfl, HK, HT⟩ := hrel
  have hk0 := HK.out.1
  have hkL := HK.out.2
  by_cases hlt : k < s.at_.length
  ·have hd : decide (k < s.at_.length) = true := decide_eq_true hlt
   have hk1 : k < 9223372036854775807 := by omega
   have HLT := Aside0.mk hlt
   obtain ⟨Ap, cp, hvp, _, hCp⟩ := Kd.R_reads HT.out.p
   subst hvp
   have hyL : (ys.length : Int) ≤ 16384 := by have := HT.out.ly; omega
   have HS := Aside0.mk (HS0.out.below HT.out.be)
   obtain ⟨x1, y1, hx⟩ := HS.out.tx
   have hin := HS.out.inn k hk0 hlt
   have hcl : (t.codes.length : Int) = t.n := by have := hx.lens; omega
   obtain ⟨ad, had, ha⟩ := Kd.at_int HS.out.sq.row k hk0 hlt
   obtain ⟨ac, hac, hcc⟩ := Kd.at_int hx.rc (rd s.at_ k) hin.1 (by omega)
   have d0 : wr.cell? ⟨s.sp, 0, none⟩ = some (.pointer (some ⟨t.tp, 0, none⟩)) := HS.out.cells.1
   have d1 : wr.cell? ⟨t.tp, 0, none⟩ = some (.slice t.Ac t.codes.length t.cc) := (blk_cell hx.blk 0).trans rfl
   have hin1 := hin.1
   have hin2 : rd s.at_ k < t.codes.length := by omega
   obtain ⟨o, kd, hb⟩ := bracket_any (rd t.codes (rd s.at_ k))
   have HB := Aside0.mk hb
   generalize hz1 : rd t.codes (rd s.at_ k) = c1 at *
   generalize hz2 : rd s.at_ k = z at *
   rw [had]
   clear hb hin hx
   go_wp2_with (first | (go_at_call 105; ((with_reducible refine (HB.out _).mono ?_); rintro e w1 ⟨rfl, hb1⟩; have HT1 := Aside0.mk (HT.out.below hb1); have HS1 := Aside0.mk (HS.out.below hb1); have g0 := (hb1.cell (World.block_lt_of_cell? wr _ d0)).trans d0; have g1 := (hb1.cell (World.block_lt_of_cell? wr _ d1)).trans d1; have g2 := (hb1.cell (World.block_lt_of_cell? wr _ hcc)).trans hcc; clear hb1)) | (go_at_call 73; ((with_reducible refine Calls.mono (of_ex (B := B) (t := t) (s := s) HS1.out k hk0 HLT.out) ?_); rintro e w2 ⟨y1, rfl, q1, rfl⟩)) | ((with_reducible refine gate_builtin (b := .append) (xs := #[.tmp 90, .tmp 94]) rfl ?_); at_builtin; refine Kd.R_append P.k47 (w0 := w) w.heap.size rfl (.tmp 90) (.tmp 94) 44 47 (.agg #[(.int .i64 0), (.int .i64 0)]) 16 rfl Try.underlying44 P.info47 rfl (by decide) (by omega) _ ys (⟨k, o⟩ : P.S47) [.int .i64 k, .int .i64 o] (fun _ => True) (fun _ => False) rfl rfl ?aP (fun _ hk => hk.elim) ?aF ?aO ?aB ?aS ?aL ?_; (case aP => exact P.k47_mkM _ _ _ (⟨k, o⟩ : P.S47)); (case aB => exact (HT1.out.drewN _).be); (case aF => exact (fun _ _ => trivial)); (case aO => exact (HT1.out.drewN _).p); (case aS => exact below_size (HT1.out.drewN _).be); (case aL => have := HT1.out.ly; omega); intro v9 w9 ho hb hg hat; have HT9 := Aside0.mk (Two.openn (HT1.out.drewN _) _ (by exact ⟨hk0, HLT.out⟩) ho hb hg hat); clear ho hb hg hat))
   ·exact ⟨⟨k + 1, xs, ys, rfl, ⟨by omega⟩, ⟨(HT1.out.drewN _).next⟩⟩, by simp [intOf]; omega⟩
   ·go_ret
    exact ⟨(HT1.out.drewN _).be, _, [], rfl, Pq.nil _ _ _⟩
   ·exact ⟨⟨k + 1, xs, _, rfl, ⟨by omega⟩, HT9⟩, by simp [intOf]; omega⟩
   ·go_loopw [3, 4, 9] (fun s3 s4 s9 wq => ∃ (j : Int), s3 = u3 ∧ s4 = .slice Ap ys.length cp ∧ s9 = .int .i64 j ∧ Aside0 (-1 ≤ j ∧ j < ys.length) ∧ ∃ q, wq = w1.drewN q) (fun _ _ s9 _ => (intOf s9 + 1).toNat)
    case atStart => exact ⟨_, rfl, rfl, rfl, ⟨by omega⟩, _, rfl⟩
    case round =>
     obtain ⟨j, rfl, rfl, rfl, HJ, q, rfl⟩ := hrel
     have HTq := Aside0.mk (HT1.out.drewN q)
     have hj1 := HJ.out.1
     have hj2 := HJ.out.2
     have hj3 : j < 9223372036854775807 := by omega
     by_cases hj : 0 ≤ j
     ·have hdj : decide (0 ≤ j) = true := decide_eq_true hj
      obtain ⟨A', c', he', _, hC'⟩ := Kd.R_reads HT1.out.p
      cases he'
      obtain ⟨ap, eap, i0, i1⟩ := P.at_T47 hC' j hj hj2
      have HF : Aside0 (0 ≤ (P.rd_T47 ys j).f0 ∧ (P.rd_T47 ys j).f0 < s.at_.length) := ⟨HT1.out.ry _ (in_T47 hj hj2)⟩
      generalize (P.rd_T47 ys j).f0 = f at *
      generalize (P.rd_T47 ys j).f1 = f' at *
      subst eap
      obtain ⟨d, hdd⟩ : ∃ d, (f' == c1) = d := ⟨_, rfl⟩
      clear hC' hCp
      cases d
      ·go_wp2
       go_quiet (fail)
       go_wp2
       exact ⟨⟨j - 1, rfl, rfl, rfl, ⟨by omega⟩, _, rfl⟩, by simp [intOf]; omega⟩
      ·go_wp2
       go_quiet (fail)
       go_wp2_with ((with_reducible refine gate_builtin (b := .append) (xs := #[.tmp 57, .tmp 65]) rfl ?_); at_builtin; refine Kd.R_append P.k47 (w0 := w) w.heap.size rfl (.tmp 57) (.tmp 65) 44 47 (.agg #[(.int .i64 0), (.int .i64 0)]) 16 rfl Try.underlying44 P.info47 rfl (by decide) (by omega) _ xs (⟨f, k⟩ : P.S47) [.int .i64 f, .int .i64 k] (fun _ => True) (fun _ => False) rfl rfl ?aP (fun _ hk => hk.elim) ?aF ?aO ?aB ?aS ?aL ?_; (case aP => exact P.k47_mkM _ _ _ (⟨f, k⟩ : P.S47)); (case aB => exact (HT1.out.drewN _).be); (case aF => exact (fun _ _ => trivial)); (case aO => exact (HT1.out.drewN _).o); (case aS => exact below_size (HT1.out.drewN _).be); (case aL => have := HT1.out.lx; omega); intro v9 w9 ho hb hg hat; have HT9 := Aside0.mk (Two.outt (HT1.out.drewN _) _ (by exact ⟨HF.out.1, HF.out.2, hk0, HLT.out⟩) ho hb hg hat); clear ho hb hg hat)
       exact ⟨⟨k + 1, _, _, rfl, ⟨by omega⟩, ⟨HT9.out.pop j.toNat (by omega)⟩⟩, by simp [intOf]; omega⟩
     ·have hdj : decide (0 ≤ j) = false := decide_eq_false hj
      go_wp2
      exact ⟨⟨k + 1, xs, ys, rfl, ⟨by omega⟩, ⟨(HT1.out.drewN _).next⟩⟩, by simp [intOf]; omega⟩
   ·exact ⟨⟨k + 1, xs, ys, rfl, ⟨by omega⟩, ⟨(HT1.out.drewN _).next⟩⟩, by simp [intOf]; omega⟩
  ·have hd : decide (k < s.at_.length) = false := decide_eq_false hlt
   clear hlt
   have HX : Aside0 (xs.length ≤ 16384) := ⟨by have := HT.out.lx; omega⟩
   go_wp2_with (go_at_call 106; ((with_reducible refine Calls.mono (sort_any HT.out.o HT.out.be HT.out.rx (by omega) HX.out) ?_); rintro e w1 ⟨rfl, hb1, l1, hp1⟩; have HB1 := Aside0.mk hb1; have HP1 := Aside0.mk hp1; clear hb1 hp1))
   go_ret
   exact ⟨HB1.out, _, l1, rfl, HP1.out⟩
end Go.Proofs.Yteoonjnmghponaa.F
namespace Go.Proofs.Yteoonjnmghponaa.F
open Go.RowKit Go.Proofs.YteoonjnmghponaaW.PrintWords Go.Proofs.YteoonjnmghponaaW.PrintLast Go.Proofs.YteoonjnmghponaaW.PrintMore
set_option linter.unusedVariables false
set_option linter.unusedSimpArgs false
/-- A row that is read, apart from the two rows that are written. -/
theorem C_ch {α : Type} {d : Kd α} {B : Nat} {t : TP} {W W' : World} {A : Option Addr} {n : Nat} {l : List α} (h : Kd.C d W A n l) (hd : ∀ cs x, d.K W x cs → d.K W' x cs) (hc : Ch B t W W') (hf : ∀ ad, A = some ad → ad.block ≠ t.bN ∧ ad.block ≠ t.bL) : Kd.C d W' A n l := by
  refine ⟨h.1, h.2.1, fun hn => ?_⟩
  obtain ⟨ad, he, hx⟩ := h.2.2 hn
  refine ⟨ad, he, fun j p hj => ?_⟩
  obtain ⟨cs, e1, e2, e3⟩ := hx j p hj
  refine ⟨cs, e1, hd _ _ e2, fun i u hu => ?_⟩
  have hb := hf ad he
  exact hc.cell (e3 i u hu) (by rw [add_block]; exact hb.1) (by rw [add_block]; exact hb.2)
/-- Inside brackets: the sequence, what may change, the pairs. -/
structure Wp (B : Nat) (t : TP) (s : SP) (w : World) (A : Option Addr) (l : List P.S47) (W : World) : Prop where
  sx : Sx B t s W
  ch : Ch B t w W
  row : Kd.C P.k47 W A l.length l
section
variable {B : Nat} {t : TP} {s : SP} {w W W' : World} {A : Option Addr} {l : List P.S47}
theorem Wp.below (h : Wp B t s w A l W) (hb : Below W.heap.size W W') : Wp B t s w A l W' := ⟨h.sx.below hb, h.ch.below h.sx.lo hb, Kd.C_below h.row hb⟩
theorem Wp.drewN (h : Wp B t s w A l W) (q : Nat) : Wp B t s w A l (W.drewN q) := h.below (pw_below_drewN (Below.refl _ _) q)
theorem Wp.to (h : Wp B t s w A l W) (hf : ∀ ad, A = some ad → ad.block ≠ t.bN ∧ ad.block ≠ t.bL) (hs : Sx B t s W') (hc : Ch B t W W') : Wp B t s w A l W' :=
  ⟨hs, h.ch.trans hc, C_ch h.row (fun cs x k => by rw [P.k47_open k]; exact P.k47_mk _ _) hc hf⟩
end
set_option maxRecDepth 100000 in
set_option maxHeartbeats 4000000 in
theorem brackets_any {B : Nat} {t : TP} {s : SP} {w : World} (h : Sx B t s w) (hfew : s.at_.length ≤ 16384) (hz : t.bN < w.heap.size ∧ t.bL < w.heap.size) :
    Calls Try.prog 35 #[.pointer (some ⟨s.sp, 0, none⟩)] w fun e w' => e = .returned (.tuple #[]) ∧ Sx B t s w' ∧ Ch B t w w' := by
  have HS0 := Aside0.mk h
  have hc2 := h.cells.2.2.1
  obtain ⟨dr, hdr⟩ := direction_any s.lv
  have HD := Aside0.mk hdr
  have HZ := Aside0.mk hz
  clear h hdr hz
  have hix0 : ∀ (a b : Int) (w : World), (Instr.index 47 (.agg #[.int .i64 a, .int .i64 b]) (.int .i64 0)).run Try.prog w = .ok (.int .i64 a) w := fun _ _ _ => by kernel_rfl
  have hix1 : ∀ (a b : Int) (w : World), (Instr.index 47 (.agg #[.int .i64 a, .int .i64 b]) (.int .i64 1)).run Try.prog w = .ok (.int .i64 b) w := fun _ _ _ => by kernel_rfl
  go_enter Try.func35, Try.ntmps35
  go_wp2_with (go_at_call 72; ((with_reducible refine (HD.out _).mono ?_); rintro e w1 ⟨rfl, q1, rfl⟩))
  go_at_call 80
  refine Calls.mono (pairs_any (HS0.out.drewN q1) hfew) ?_
  rintro e w1 ⟨hb1, v, l, rfl, hp⟩
  have HB1 := Aside0.mk hb1
  obtain ⟨A, cA, rfl, hC, hA⟩ := hp.form
  have HIN := Aside0.mk hp.inn
  have HW1 : Aside0 (Wp B t s w A l w1) := ⟨(HS0.out.drewN q1).below hb1, ((Ch.refl B t w).drewN q1).below HS0.out.lo hb1, hC⟩
  have HFA : Aside0 (∀ ad, A = some ad → ad.block ≠ t.bN ∧ ad.block ≠ t.bL) := ⟨fun ad e => by have := HZ.out; have : w.heap.size ≤ ad.block := hA ad e; constructor <;> omega⟩
  clear hb1 hp hC hA
  go_wp2
  go_loopw [21] (fun s21 wr => ∃ (i : Int), s21 = .int .i64 i ∧ Aside0 (0 ≤ i ∧ i ≤ l.length) ∧ Aside0 (Wp B t s w A l wr)) (fun s21 _ => (l.length - intOf s21).toNat)
  case atStart => exact ⟨0, rfl, ⟨by omega⟩, HW1⟩
  case round =>
    obtain ⟨i, rfl, HI, HW⟩ := hrel
    have hi0 := HI.out.1
    have hi1 := HI.out.2
    by_cases hlt : i < l.length
    · have hd : decide (i < l.length) = true := decide_eq_true hlt
      have hll : l.length ≤ 9223372036854775807 := HW.out.row.2.1
      have hi9 : i < 9223372036854775807 := by omega
      obtain ⟨ap, rfl, i0, i1⟩ := P.at_T47 HW.out.row i hi0 hlt
      obtain ⟨r0, r1, r2, r3⟩ := HIN.out _ (in_T47 hi0 hlt)
      generalize (P.rd_T47 l i).f0 = p0 at *
      generalize (P.rd_T47 l i).f1 = p1 at *
      have HLT := Aside0.mk hlt
      go_wp2
      have HWb := Aside0.mk (HW.out.below (below_alloc (Below.refl _ _) (Obj.cells #[Value.int IntKind.i64 p0, Value.int IntKind.i64 p1] 47)))
      have b0 : (wr.alloc (Obj.cells #[Value.int IntKind.i64 p0, Value.int IntKind.i64 p1] 47)).cell? ⟨wr.heap.size, 0, none⟩ = some (.int .i64 p0) := (blk_cell (blk_new _ _) 0).trans rfl
      have b1 : (wr.alloc (Obj.cells #[Value.int IntKind.i64 p0, Value.int IntKind.i64 p1] 47)).cell? ⟨wr.heap.size, 1, none⟩ = some (.int .i64 p1) := (blk_cell (blk_new _ _) 1).trans rfl
      clear i0 i1 hlt
      generalize wr.alloc (Obj.cells #[Value.int IntKind.i64 p0, Value.int IntKind.i64 p1] 47) = wb at *
      generalize wr.heap.size = pb at *
      go_loopw [5, 6, 7] (fun s5 s6 s7 wq => ∃ (a b : Bool) (k : Int) (q : Nat), s5 = .bool a ∧ s6 = .bool b ∧ s7 = .int .i64 k ∧ Aside0 (p0 + 1 ≤ k) ∧ wq = wb.drewN q) (fun _ _ s7 _ => (p1 - intOf s7).toNat)
      case atStart => exact ⟨false, false, p0 + 1, 0, rfl, rfl, rfl, ⟨by omega⟩, rfl⟩
      case round =>
        obtain ⟨a, b, k, q, rfl, rfl, rfl, HK, rfl⟩ := hrel
        have hk0 := HK.out
        by_cases hkp : k < p1
        · have hdk : decide (k < p1) = true := decide_eq_true hkp
          have hk9 : k < 9223372036854775807 := by omega
          obtain ⟨y, hy⟩ := of_all HWb.out.sx k (by omega) (by omega)
          have HY := Aside0.mk hy
          obtain ⟨z, hz⟩ := side_any y
          have HSD := Aside0.mk hz
          have HKP := Aside0.mk hkp
          clear hy hz hkp
          cases a <;> cases b
          all_goals
          (go_wp2_with (first | (go_at_call 73; ((with_reducible refine (HY.out _).mono ?_); rintro e w1 ⟨rfl, q1, rfl⟩)) | (go_at_call 81; ((with_reducible refine (HSD.out _).mono ?_); rintro e w2 ⟨rfl, q2, rfl⟩)))
           all_goals exact ⟨⟨_, _, k + 1, _, rfl, rfl, rfl, ⟨by omega⟩, rfl⟩, by have := HKP.out; simp [intOf]; omega⟩)
        · have hdk : decide (k < p1) = false := decide_eq_false hkp
          clear hkp hk0 HK
          cases a <;> cases b
          · go_wp2
            exact ⟨⟨i + 1, rfl, ⟨by have := HLT.out; omega⟩, ⟨HWb.out.drewN _⟩⟩, by have := HLT.out; simp [intOf]; omega⟩
          · go_wp2_with fail
            go_at_call 82
            refine Calls.mono (ahead_any (B := B) (t := t) (s := s) (HWb.out.sx.drewN _) p0 r0 (by omega)) ?_
            rintro e w4 ⟨y4, rfl, q4, rfl⟩
            obtain ⟨bq, hbq⟩ : ∃ b, (y4 == wrap64 (1 - dr)) = b := ⟨_, rfl⟩
            cases bq
            all_goals
            (go_wp2
             (go_loopw [72] (fun s72 wq => ∃ (m : Int), s72 = .int .i64 m ∧ Aside0 (0 ≤ m ∧ m ≤ 2) ∧ Aside0 (Wp B t s w (some ap) l wq)) (fun s72 _ => (2 - intOf s72).toNat)
              case atStart => exact ⟨0, rfl, ⟨by omega⟩, ⟨by repeat (first | exact HWb.out | apply Wp.drewN)⟩⟩
              case round =>
                clear b0 b1
                obtain ⟨m, rfl, HM, HW2⟩ := hrel
                have hm0 := HM.out.1
                have hm2 := HM.out.2
                obtain ⟨pk, hpk, g0, g1⟩ : ∃ pk : Int, (m < 2 → (m = 0 ∧ pk = p0) ∨ (m = 1 ∧ pk = p1)) ∧ 0 ≤ pk ∧ pk < s.at_.length := by
                  by_cases h0 : m = 0
                  · exact ⟨p0, fun _ => .inl ⟨h0, rfl⟩, r0, r1⟩
                  · exact ⟨p1, fun _ => .inr ⟨by omega, rfl⟩, r2, r3⟩
                by_cases hm : m < 2
                · have hdm : decide (m < 2) = true := decide_eq_true hm
                  have HP := Aside0.mk hpk
                  rcases hpk hm with ⟨hm1, hpk1⟩ | ⟨hm1, hpk1⟩
                  all_goals
                  (subst hm1 hpk1
                   clear hpk hm HP
                   go_wp2_with (go_at_call 75; ((with_reducible refine Calls.mono (become_any (B := B) (t := t) (s := s) ?_ pk _ g0 g1) ?_); (repeat (first | exact HW2.out.sx | apply Sx.drewN)); rintro e w3 ⟨rfl, hs1, hc1⟩; have HW9 := Aside0.mk (Wp.to (by repeat (first | exact HW2.out | apply Wp.drewN)) HFA.out hs1 hc1); clear hs1 hc1))
                   go_loopw [12] (fun s12 wq => ∃ (j : Int), s12 = .int .i64 j ∧ Aside0 (pk + 1 ≤ j ∧ j ≤ s.at_.length) ∧ Aside0 (Wp B t s w (some ap) l wq)) (fun s12 _ => (s.at_.length - intOf s12).toNat)
                   case atStart => exact ⟨pk + 1, rfl, ⟨by omega⟩, HW9⟩
                   case round =>
                     clear HW9 HW2
                     obtain ⟨j, rfl, HJ, HW4⟩ := hrel
                     have hj0 := HJ.out.1
                     have hj2 := HJ.out.2
                     have hj9 : j < 9223372036854775807 := by omega
                     have e1 := HW4.out.sx.cells.2.1
                     by_cases hj : j < s.at_.length
                     · have hdj : decide (j < s.at_.length) = true := decide_eq_true hj
                       obtain ⟨x4, y4, hx⟩ := HW4.out.sx.tx
                       have hin := HW4.out.sx.inn j (by omega) hj
                       have hcsl : (t.cs.length : Int) = t.n := by have := hx.lens; omega
                       obtain ⟨ad, had, ha⟩ := Kd.at_int HW4.out.sx.sq.row j (by omega) hj
                       obtain ⟨af, haf, hf⟩ := Kd.at_int hx.rf (rd s.at_ j) hin.1 (by omega)
                       have d0 : wr.cell? ⟨s.sp, 0, none⟩ = some (.pointer (some ⟨t.tp, 0, none⟩)) := HW4.out.sx.cells.1
                       have d1 : wr.cell? ⟨t.tp, 1, none⟩ = some (.slice t.Af t.cs.length t.cf) := (blk_cell hx.blk 1).trans rfl
                       rw [haf] at d1
                       rw [had] at e1
                       have hin1 := hin.1
                       have hin2 : rd s.at_ j < t.cs.length := by omega
                       have HJ4 := Aside0.mk hj
                       obtain ⟨d8, h8⟩ : ∃ d, (rd t.cs (rd s.at_ j) == 8) = d := ⟨_, rfl⟩
                       generalize rd t.cs (rd s.at_ j) = c4 at *
                       generalize rd s.at_ j = z4 at *
                       clear hx hin hcsl
                       cases d8
                       · go_wp2
                         go_quiet (fail)
                         go_wp2
                         first
                           | exact ⟨⟨_, rfl, ⟨by omega⟩, ⟨by repeat (first | exact HW4.out | apply Wp.drewN)⟩⟩, by simp [intOf]⟩
                           | (go_roundw; (case rel => exact ⟨_, rfl, ⟨by omega⟩, ⟨by repeat (first | exact HW4.out | apply Wp.drewN)⟩⟩); (case measure => simp [intOf]))
                       · go_wp2
                         go_quiet (fail)
                         go_wp2_with (go_at_call 75; ((with_reducible refine Calls.mono (become_any (B := B) (t := t) (s := s) ?_ j _ (by omega) HJ4.out) ?_); (repeat (first | exact HW4.out.sx | apply Sx.drewN)); rintro e w3 ⟨rfl, hs1, hc1⟩; have HW5 := Aside0.mk (Wp.to (by repeat (first | exact HW4.out | apply Wp.drewN)) HFA.out hs1 hc1); clear hs1 hc1))
                         first
                           | exact ⟨⟨j + 1, rfl, ⟨by have := HJ4.out; omega⟩, HW5⟩, by have := HJ4.out; simp [intOf]; omega⟩
                           | (go_roundw; (case rel => exact ⟨j + 1, rfl, ⟨by have := HJ4.out; omega⟩, HW5⟩); (case measure => have := HJ4.out; simp [intOf]; omega))
                     · have hdj : decide (j < s.at_.length) = false := decide_eq_false hj
                       clear hj
                       go_wp2
                       go_quiet (fail)
                       go_wp2
                       first
                           | exact ⟨⟨_, rfl, ⟨by omega⟩, ⟨by repeat (first | exact HW4.out | apply Wp.drewN)⟩⟩, by simp [intOf]⟩
                           | (go_roundw; (case rel => exact ⟨_, rfl, ⟨by omega⟩, ⟨by repeat (first | exact HW4.out | apply Wp.drewN)⟩⟩); (case measure => simp [intOf])))
                · have hdm : decide (m < 2) = false := decide_eq_false hm
                  clear hpk hm
                  go_wp2
                  exact ⟨⟨i + 1, rfl, ⟨by have := HLT.out; omega⟩, ⟨HW2.out⟩⟩, by have := HLT.out; simp [intOf]; omega⟩))
          all_goals
          (go_wp2
           (go_loopw [72] (fun s72 wq => ∃ (m : Int), s72 = .int .i64 m ∧ Aside0 (0 ≤ m ∧ m ≤ 2) ∧ Aside0 (Wp B t s w (some ap) l wq)) (fun s72 _ => (2 - intOf s72).toNat)
            case atStart => exact ⟨0, rfl, ⟨by omega⟩, ⟨by repeat (first | exact HWb.out | apply Wp.drewN)⟩⟩
            case round =>
              clear b0 b1
              obtain ⟨m, rfl, HM, HW2⟩ := hrel
              have hm0 := HM.out.1
              have hm2 := HM.out.2
              obtain ⟨pk, hpk, g0, g1⟩ : ∃ pk : Int, (m < 2 → (m = 0 ∧ pk = p0) ∨ (m = 1 ∧ pk = p1)) ∧ 0 ≤ pk ∧ pk < s.at_.length := by
                by_cases h0 : m = 0
                · exact ⟨p0, fun _ => .inl ⟨h0, rfl⟩, r0, r1⟩
                · exact ⟨p1, fun _ => .inr ⟨by omega, rfl⟩, r2, r3⟩
              by_cases hm : m < 2
              · have hdm : decide (m < 2) = true := decide_eq_true hm
                have HP := Aside0.mk hpk
                rcases hpk hm with ⟨hm1, hpk1⟩ | ⟨hm1, hpk1⟩
                all_goals
                (subst hm1 hpk1
                 clear hpk hm HP
                 go_wp2_with (go_at_call 75; ((with_reducible refine Calls.mono (become_any (B := B) (t := t) (s := s) ?_ pk _ g0 g1) ?_); (repeat (first | exact HW2.out.sx | apply Sx.drewN)); rintro e w3 ⟨rfl, hs1, hc1⟩; have HW9 := Aside0.mk (Wp.to (by repeat (first | exact HW2.out | apply Wp.drewN)) HFA.out hs1 hc1); clear hs1 hc1))
                 go_loopw [12] (fun s12 wq => ∃ (j : Int), s12 = .int .i64 j ∧ Aside0 (pk + 1 ≤ j ∧ j ≤ s.at_.length) ∧ Aside0 (Wp B t s w (some ap) l wq)) (fun s12 _ => (s.at_.length - intOf s12).toNat)
                 case atStart => exact ⟨pk + 1, rfl, ⟨by omega⟩, HW9⟩
                 case round =>
                   clear HW9 HW2
                   obtain ⟨j, rfl, HJ, HW4⟩ := hrel
                   have hj0 := HJ.out.1
                   have hj2 := HJ.out.2
                   have hj9 : j < 9223372036854775807 := by omega
                   have e1 := HW4.out.sx.cells.2.1
                   by_cases hj : j < s.at_.length
                   · have hdj : decide (j < s.at_.length) = true := decide_eq_true hj
                     obtain ⟨x4, y4, hx⟩ := HW4.out.sx.tx
                     have hin := HW4.out.sx.inn j (by omega) hj
                     have hcsl : (t.cs.length : Int) = t.n := by have := hx.lens; omega
                     obtain ⟨ad, had, ha⟩ := Kd.at_int HW4.out.sx.sq.row j (by omega) hj
                     obtain ⟨af, haf, hf⟩ := Kd.at_int hx.rf (rd s.at_ j) hin.1 (by omega)
                     have d0 : wr.cell? ⟨s.sp, 0, none⟩ = some (.pointer (some ⟨t.tp, 0, none⟩)) := HW4.out.sx.cells.1
                     have d1 : wr.cell? ⟨t.tp, 1, none⟩ = some (.slice t.Af t.cs.length t.cf) := (blk_cell hx.blk 1).trans rfl
                     rw [haf] at d1
                     rw [had] at e1
                     have hin1 := hin.1
                     have hin2 : rd s.at_ j < t.cs.length := by omega
                     have HJ4 := Aside0.mk hj
                     obtain ⟨d8, h8⟩ : ∃ d, (rd t.cs (rd s.at_ j) == 8) = d := ⟨_, rfl⟩
                     generalize rd t.cs (rd s.at_ j) = c4 at *
                     generalize rd s.at_ j = z4 at *
                     clear hx hin hcsl
                     cases d8
                     · go_wp2
                       go_quiet (fail)
                       go_wp2
                       first
                         | exact ⟨⟨_, rfl, ⟨by omega⟩, ⟨by repeat (first | exact HW4.out | apply Wp.drewN)⟩⟩, by simp [intOf]⟩
                         | (go_roundw; (case rel => exact ⟨_, rfl, ⟨by omega⟩, ⟨by repeat (first | exact HW4.out | apply Wp.drewN)⟩⟩); (case measure => simp [intOf]))
                     · go_wp2
                       go_quiet (fail)
                       go_wp2_with (go_at_call 75; ((with_reducible refine Calls.mono (become_any (B := B) (t := t) (s := s) ?_ j _ (by omega) HJ4.out) ?_); (repeat (first | exact HW4.out.sx | apply Sx.drewN)); rintro e w3 ⟨rfl, hs1, hc1⟩; have HW5 := Aside0.mk (Wp.to (by repeat (first | exact HW4.out | apply Wp.drewN)) HFA.out hs1 hc1); clear hs1 hc1))
                       first
                         | exact ⟨⟨j + 1, rfl, ⟨by have := HJ4.out; omega⟩, HW5⟩, by have := HJ4.out; simp [intOf]; omega⟩
                         | (go_roundw; (case rel => exact ⟨j + 1, rfl, ⟨by have := HJ4.out; omega⟩, HW5⟩); (case measure => have := HJ4.out; simp [intOf]; omega))
                   · have hdj : decide (j < s.at_.length) = false := decide_eq_false hj
                     clear hj
                     go_wp2
                     go_quiet (fail)
                     go_wp2
                     first
                         | exact ⟨⟨_, rfl, ⟨by omega⟩, ⟨by repeat (first | exact HW4.out | apply Wp.drewN)⟩⟩, by simp [intOf]⟩
                         | (go_roundw; (case rel => exact ⟨_, rfl, ⟨by omega⟩, ⟨by repeat (first | exact HW4.out | apply Wp.drewN)⟩⟩); (case measure => simp [intOf])))
              · have hdm : decide (m < 2) = false := decide_eq_false hm
                clear hpk hm
                go_wp2
                exact ⟨⟨i + 1, rfl, ⟨by have := HLT.out; omega⟩, ⟨HW2.out⟩⟩, by have := HLT.out; simp [intOf]; omega⟩))
    · have hd : decide (i < l.length) = false := decide_eq_false hlt
      go_wp2
      go_returns
      exact ⟨rfl, HW.out.sx, HW.out.ch⟩
end Go.Proofs.Yteoonjnmghponaa.F
