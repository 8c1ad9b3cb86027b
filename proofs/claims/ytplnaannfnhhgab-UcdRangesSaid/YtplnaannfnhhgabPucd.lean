import Derived.Test.YtplnaannfnhhgabPx2
namespace Go.Proofs.Ytplnaannfnhhgab.Pure
open Go.RowKit Go.Proofs.Ytplnaannfnhhgab.P Go.Proofs.Ytplnaannfnhhgab.F Go.Proofs.YtplnaannfnhhgabW.PrintWords Go.Proofs.YtplnaannfnhhgabW.PrintLast

def mirL : List Int := [40, 41, 91, 93, 123, 125, 12296, 12297, 12298, 12299, 12300, 12301, 60, 62, 171, 187]
def braL : List Int := [40, 41, 91, 93, 123, 125, 12296, 12297, 12298, 12299, 12300, 12301]
def mirB : ByteArray := ⟨#[40, 41, 91, 93, 123, 125, 227, 128, 136, 227, 128, 137, 227, 128, 138, 227, 128, 139, 227, 128, 140, 227, 128, 141, 60, 62, 194, 171, 194, 187]⟩
def braB : ByteArray := ⟨#[40, 41, 91, 93, 123, 125, 227, 128, 136, 227, 128, 137, 227, 128, 138, 227, 128, 139, 227, 128, 140, 227, 128, 141]⟩
theorem mir_dec : decFrom mirB mirB.size 0 = mirL := by decide +kernel
theorem bra_dec : decFrom braB braB.size 0 = braL := by decide +kernel
theorem mir_other (c : Int) : ucd_other.f mirB c = some (otherL c mirL 0 0) := by
  unfold ucd_other.f
  rw [mir_dec, if_pos (by decide +kernel)]
theorem bra_other (c : Int) : ucd_other.f braB c = some (otherL c braL 0 0) := by
  unfold ucd_other.f
  rw [bra_dec, if_pos (by decide +kernel)]
theorem other_none (c : Int) : ∀ (l : List Int) (last : Int) (k : Nat), c ∉ l → (k % 2 = 1 → last ≠ c) → otherL c l last k = (0, 0)
  | [], _, _, _, _ => rfl
  | x :: l, last, k, hc, hl => by
    have h1 : x ≠ c := fun h => hc (h ▸ List.mem_cons_self)
    unfold otherL
    rw [if_neg (fun h => hl h.1 h.2), if_neg (fun h => h1 h.2)]
    exact other_none c l x (k + 1) (fun h => hc (List.mem_cons_of_mem _ h)) (fun _ => h1)
theorem mirror_none (c : Int) (h : c ∉ mirL) : ucd_Mirror.f c = some c := by
  have e : ucd_Mirror.f c = (ucd_other.f mirB c).bind fun bt101 => (if bt101.2 > 0 then (some bt101.1) else (some c)) := rfl
  rw [e, mir_other, other_none c mirL 0 0 h (by omega)]
  rfl
theorem bracket_none (c : Int) (h : c ∉ braL) : ucd_Bracket.f c = some (0, 0) := by
  have e : ucd_Bracket.f c = (ucd_other.f braB c).bind fun bt107 => (some (bt107.1, bt107.2)) := rfl
  rw [e, bra_other, other_none c braL 0 0 h (by omega)]
  rfl
theorem alive : seriflaw12_ucdAlive.f = some true := by decide +kernel
end Go.Proofs.Ytplnaannfnhhgab.Pure
