/- Classes and keys of floats. -/
import Derived.Test.YtefcofkodhichaaClsK
set_option linter.unusedSimpArgs false
set_option linter.unusedVariables false
namespace Go.Proofs.Ytefcofkodhichaa
open Go.RowKit Mo
theorem cls_cases (b : Nat) (hb : b < 18446744073709551616) :
    (cls b = 0 ∧ isNaN b = true ∧ keyN b = 0) ∨
    (isNaN b = false ∧ ((cls b = 1 ∧ keyN b = 4503599627370495 ∧ ikey b = -9218868437227405312) ∨
      (cls b = 2 ∧ 4503599627370495 < keyN b ∧ keyN b < 9223372036854775807 ∧ ikey b = (keyN b : Int) - 9223372036854775807) ∨
      (cls b = 3 ∧ keyN b = 9223372036854775807 ∧ ikey b = 0) ∨ (cls b = 4 ∧ keyN b = 9223372036854775808 ∧ ikey b = 0) ∨
      (cls b = 5 ∧ 9223372036854775808 < keyN b ∧ keyN b < 18442240474082181120 ∧ ikey b = (keyN b : Int) - 9223372036854775808) ∨
      (cls b = 6 ∧ keyN b = 18442240474082181120 ∧ ikey b = 9218868437227405312))) := by
  have hw := word_of b hb
  cases hn : isNaN b
  · right
    refine ⟨rfl, ?_⟩
    have hr : rung b ≤ 9218868437227405312 := by unfold isNaN at hn; simpa using hn
    unfold cls keyN ikey
    rw [hn]
    cases hg : isNeg b
    · rw [hg] at hw
      simp only [Bool.false_eq_true, if_false, Nat.zero_add] at hw ⊢
      rcases (show rung b = 0 ∨ rung b = 9218868437227405312 ∨ (0 < rung b ∧ rung b < 9218868437227405312) by omega) with h | h | ⟨h, h'⟩
      · rw [if_pos h]; right; right; right; left; refine ⟨rfl, by omega, by omega⟩
      · rw [if_neg (by omega), if_pos h]; right; right; right; right; right; refine ⟨rfl, by omega, by omega⟩
      · rw [if_neg (by omega), if_neg (by omega)]; right; right; right; right; left; refine ⟨rfl, by omega, by omega, by omega⟩
    · rw [hg] at hw
      simp only [Bool.false_eq_true, if_false, if_true] at hw ⊢
      rcases (show rung b = 0 ∨ rung b = 9218868437227405312 ∨ (0 < rung b ∧ rung b < 9218868437227405312) by omega) with h | h | ⟨h, h'⟩
      · rw [if_pos h]; right; right; left; refine ⟨rfl, by omega, by omega⟩
      · rw [if_neg (by omega), if_pos h]; left; refine ⟨rfl, by omega, by omega⟩
      · rw [if_neg (by omega), if_neg (by omega)]; right; left; refine ⟨rfl, by omega, by omega, by omega⟩
  · left
    unfold cls keyN; rw [hn]; exact ⟨rfl, rfl, rfl⟩
end Go.Proofs.Ytefcofkodhichaa
