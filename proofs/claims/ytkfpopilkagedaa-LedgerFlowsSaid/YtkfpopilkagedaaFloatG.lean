/- The product's outcome is the document's. -/
import Derived.Test.YtkfpopilkagedaaFloatE
set_option linter.unusedSimpArgs false
set_option linter.unusedVariables false
namespace Go.Proofs.Ytkfpopilkagedaa
open Go.RowKit Mo
theorem rung_nrm (b : Nat) (h0 : 0 < rung b) (h : rung b < 4503599627370496) : rung (nrm b) = (rung b).log2 * 4503599627370496 + rung b * 2 ^ (52 - (rung b).log2) := by
  obtain ⟨g1, g2, g3⟩ := sub_bounds _ h0 h
  unfold nrm
  rw [if_pos h]
  generalize rung b * 2 ^ (52 - (rung b).log2) = y at *
  generalize (rung b).log2 = l at *
  unfold rung
  cases isNeg b <;> simp <;> omega
theorem pabs_eq (n : Int) (b : Nat) (h0 : 0 < rung b) (y : Int) (hy : y = nrx b + (rung (nrm b) / 4503599627370496 : Nat) - 1075) :
    pabs n b false = outQ (pneg n b) (n.natAbs * (4503599627370496 + rung (nrm b) % 4503599627370496)) y := by
  unfold pabs
  generalize pneg n b = s
  generalize n.natAbs = A
  by_cases h : rung b < 4503599627370496
  · obtain ⟨g1, g2, g3⟩ := sub_bounds _ h0 h
    have e1 := rung_nrm b h0 h
    have e2 : rung (nrm b) / 4503599627370496 = (rung b).log2 + 1 := by
      rw [e1]
      generalize rung b * 2 ^ (52 - (rung b).log2) = z at *
      omega
    have e3 : 4503599627370496 + rung (nrm b) % 4503599627370496 = rung b * 2 ^ (52 - (rung b).log2) := by
      rw [e1]
      generalize rung b * 2 ^ (52 - (rung b).log2) = z at *
      omega
    have e4 : nrx b = -52 := by unfold nrx; rw [if_pos h]
    have e5 : Mo.part b = rung b := by unfold Mo.part; rw [if_pos h]
    have e6 : expf b = 1 := by unfold expf; rw [if_pos h]
    rw [e2, e4] at hy
    rw [e3, e5, e6]
    unfold outQ sq sl
    obtain ⟨K, hK⟩ : ∃ K, 1075 - 1 = K := ⟨_, rfl⟩
    have hp : (2 : Nat) ^ (1126 - (rung b).log2) = 2 ^ K * 2 ^ (52 - (rung b).log2) := by rw [← Nat.pow_add]; congr 1; omega
    have hpos : 0 < (2 : Nat) ^ (52 - (rung b).log2) := Nat.two_pow_pos _
    rw [hK, if_neg (show ¬ 1075 ≤ 1 by decide), if_neg (show ¬ 0 ≤ y by omega), show (-y).toNat = 1126 - (rung b).log2 by omega, hp, ← Nat.mul_assoc, Nat.mul_div_mul_right _ _ hpos, Nat.mul_mod_mul_right]
    have hz : decide (A * rung b % 2 ^ K * 2 ^ (52 - (rung b).log2) ≠ 0) = decide (A * rung b % 2 ^ K ≠ 0) := by
      rw [Bool.eq_iff_iff, decide_eq_true_iff, decide_eq_true_iff]
      exact ⟨fun h e => h (by rw [e, Nat.zero_mul]), fun h => Nat.mul_ne_zero h (by omega)⟩
    rw [hz]
    cases s <;> simp
  · have e4 : nrx b = 0 := by unfold nrx; rw [if_neg h]
    have e7 : nrm b = b := by unfold nrm; rw [if_neg h]
    have e5 : Mo.part b = 4503599627370496 + rung b % 4503599627370496 := by unfold Mo.part; rw [if_neg h]
    have e6 : expf b = rung b / 4503599627370496 := by unfold expf; rw [if_neg h]
    rw [e7, e4] at hy
    rw [e7, e5, e6]
    generalize A * (4503599627370496 + rung b % 4503599627370496) = N
    generalize rung b / 4503599627370496 = x at *
    unfold outQ sq sl
    by_cases hx : 1075 ≤ x
    · rw [if_pos hx, if_pos (show 0 ≤ y by omega), show y.toNat = x - 1075 by omega]
      have : decide (x < 1075) = false := by simp; omega
      rw [this]; simp
    · rw [if_neg hx, if_neg (show ¬ 0 ≤ y by omega), show (-y).toNat = 1075 - x by omega]
      have : decide (x < 1075) = true := by simp; omega
      rw [this]; cases s <;> simp
theorem prod_out (n : Int) (b : Nat) (h0 : 0 < rung b) (h2 : rung b < 9218868437227405312) (y : Int) (hy : y = nrx b + (rung (nrm b) / 4503599627370496 : Nat) - 1075) (P : Nat) (hP : P = n.natAbs * (4503599627370496 + rung (nrm b) % 4503599627370496)) :
    outV (pneg n b) (outQ (pneg n b) P y) = prodV n b false ∧ outE (pneg n b) (outQ (pneg n b) P y) = prodE n b false := by
  have e : prodE n b false = outE (pneg n b) (outQ (pneg n b) P y) := by
    unfold prodE outE
    rw [if_neg (by omega), if_neg (by omega), pabs_eq n b h0 y hy, hP]
  refine ⟨?_, e.symm⟩
  unfold prodV
  rw [e, pabs_eq n b h0 y hy, hP]
  unfold outV outE
  cases pfit (pneg n b) (outQ (pneg n b) (n.natAbs * (4503599627370496 + rung (nrm b) % 4503599627370496)) y) <;> simp
theorem prod_zero (n : Int) (b : Nat) (h0 : rung b = 0) : prodV n b false = 0 ∧ prodE n b false = 0 := by
  have e0 : pabs n b false = 0 := by
    have e1 : Mo.part b = 0 := by unfold Mo.part; rw [if_pos (by omega), h0]
    unfold pabs
    rw [e1]
    generalize expf b = x
    simp [sq, sl]
  have e : prodE n b false = 0 := by
    unfold prodE
    rw [if_neg (by omega), if_neg (by omega), e0, if_pos (by cases pneg n b <;> decide)]
  refine ⟨?_, e⟩
  unfold prodV
  rw [e, e0]; simp
end Go.Proofs.Ytkfpopilkagedaa
