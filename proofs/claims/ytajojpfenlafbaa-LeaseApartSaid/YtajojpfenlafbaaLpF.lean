/- Leases in plays: whole statements as pieces. -/
import Derived.Test.YtajojpfenlafbaaLpE
set_option linter.unusedSimpArgs false
set_option linter.unusedVariables false
namespace Go.Proofs.Ytajojpfenlafbaa
open Go.RowKit Mo
def isReg (n : Nat) : Code → Bool
  | .region i _ _ => i = n
  | _ => false
/-- the statement that a region begins -/
def segOf (n : Nat) : Code → Option Code
  | .loop c => segOf n c
  | .seq a b => if isReg n a = true then some (.seq a b) else match segOf n a with
    | some c => some c
    | none => segOf n b
  | .block _ c => segOf n c
  | .scope c => segOf n c
  | .cond _ a b => match segOf n a with
    | some c => some c
    | none => segOf n b
  | _ => none
theorem wp_seq_in {P : Program} {a b : Code} {Q : Exit → Act → World → Prop} {st : Act} {w : World} (h : a.wp P (Exit.then (b.wp P Q) Q) st w) : (a.seq b).wp P Q st w := wp_seq h
theorem isS_of {lo hi t : Int} (h : 0 ≤ lo ∧ lo ≤ t ∧ t ≤ hi ∧ hi ≤ 4398046511104) : isS lo hi = true := isS_iff.2 (by omega)
theorem linv_unt {n : Nat} {t : Int} {vL vU : Nat → Int} {us : Nat → List Int} (H : LInv n t vL vU us) (h1 : 1 ≤ n) (h5 : n ≤ 5) {l : Nat} (hl : l < 3) : unt n (us l) ≤ 1125899906842624 := by
  have e := H.l l hl
  obtain ⟨i, hi, he⟩ := List.mem_iff_getElem.1 (unt_counts n (us l) h1 (by omega)).2.2
  rw [List.length_take] at hi
  have b := (H.bd l i hl).2
  rw [List.getD_eq_getElem?_getD, List.getElem?_eq_getElem (by omega)] at b
  rw [List.getElem_take] at he
  rw [← he]
  exact b
theorem sinv_same {n : Nat} {last : Int} {us : Nat → List Int} {la : Nat → Int} (S : SInv n last us la) (i : Nat) : SInv n last us (upd la i (la i)) := by
  have e : upd la i (la i) = la := by funext j; unfold upd; split; rename_i h; rw [h]; rfl
  rw [e]; exact S
end Go.Proofs.Ytajojpfenlafbaa
