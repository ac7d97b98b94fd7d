/- The product's outcome, in plain numbers. -/
import Derived.Test.YtkfpopilkagedaaFloatD
import Derived.Lib.ItoaNum
set_option linter.unusedSimpArgs false
set_option linter.unusedVariables false
namespace Go.Proofs.Ytkfpopilkagedaa
open Go.RowKit Mo
def outV (neg : Bool) (Q : Nat) : Int := if pfit neg Q then (if neg then -(Q : Int) else Q) else 0
def outE (neg : Bool) (Q : Nat) : Int := if pfit neg Q then 0 else 11
theorem pfit_big {neg : Bool} {Q : Nat} (h : 9223372036854775808 < Q) : pfit neg Q = false := by
  unfold pfit; cases neg <;> simp <;> omega
theorem out_big {neg : Bool} {Q : Nat} (h : 9223372036854775808 < Q) : outV neg Q = 0 ∧ outE neg Q = 11 := by
  unfold outV outE; rw [pfit_big h]; exact ⟨rfl, rfl⟩
/-- the product's size: P times 2 ^ y, or P cut -/
def outQ (neg : Bool) (P : Nat) (y : Int) : Nat := if 0 ≤ y then P * 2 ^ y.toNat else P / 2 ^ (-y).toNat + if (decide (P % 2 ^ (-y).toNat ≠ 0) && neg) = true then 1 else 0
theorem outQ_zero (neg : Bool) (y : Int) : outQ neg 0 y = 0 := by
  unfold outQ; split <;> simp
theorem out_none (neg : Bool) (y : Int) : outV neg (outQ neg 0 y) = 0 ∧ outE neg (outQ neg 0 y) = 0 := by
  rw [outQ_zero]; cases neg <;> decide
theorem outQ_hi {neg : Bool} {P : Nat} {y : Int} (hy : 0 ≤ y) (h : 18446744073709551616 ≤ P) : 9223372036854775808 < outQ neg P y := by
  unfold outQ; rw [if_pos hy]
  have := Nat.mul_le_mul h (Nat.one_le_two_pow (n := y.toNat)); omega
theorem outQ_far {neg : Bool} {P : Nat} {y : Int} (hy : 64 ≤ y) (h : 0 < P) : 9223372036854775808 < outQ neg P y := by
  unfold outQ; rw [if_pos (by omega)]
  have h2 : 2 ^ 64 ≤ 2 ^ y.toNat := Nat.pow_le_pow_right (by decide) (by omega)
  have := Nat.mul_le_mul h h2
  have e : (2 : Nat) ^ 64 = 18446744073709551616 := by decide
  rw [e] at this; omega
theorem outQ_long {neg : Bool} {P : Nat} {y : Int} (hy : 0 ≤ y) (h : 0 < P) (hP : P < 18446744073709551616) (hl : 64 < (Lib.bitLen P : Int) + y) : 9223372036854775808 < outQ neg P y := by
  unfold outQ; rw [if_pos hy]
  obtain ⟨h1, h3, _⟩ := Lib.bitLenAux_bounds 64 P hP (by omega)
  have h2 : 2 ^ (64 - (Lib.bitLen P - 1)) ≤ 2 ^ y.toNat := Nat.pow_le_pow_right (by decide) (by unfold Lib.bitLen at *; omega)
  have := Nat.mul_le_mul h3 h2
  have hle : Lib.bitLenAux 64 P ≤ 64 := Lib.bitLenAux_le 64 P 64 hP
  rw [← Nat.pow_add] at this
  unfold Lib.bitLen at this
  rw [show Lib.bitLenAux 64 P - 1 + (64 - (Lib.bitLenAux 64 P - 1)) = 64 by omega] at this
  have e : (2 : Nat) ^ 64 = 18446744073709551616 := by decide
  rw [e] at this; omega
theorem outQ_fits {neg : Bool} {P : Nat} {y : Int} (hy : 0 ≤ y) (h : 0 < P) (hP : P < 18446744073709551616) (hl : (Lib.bitLen P : Int) + y ≤ 64) : outQ neg P y = P * 2 ^ y.toNat ∧ P * 2 ^ y.toNat < 18446744073709551616 := by
  unfold outQ; rw [if_pos hy]
  refine ⟨rfl, ?_⟩
  obtain ⟨h1, _, h3⟩ := Lib.bitLenAux_bounds 64 P hP (by omega)
  have h2 : 2 ^ (Lib.bitLenAux 64 P) * 2 ^ y.toNat ≤ 2 ^ 64 := by
    rw [← Nat.pow_add]; exact Nat.pow_le_pow_right (by decide) (by unfold Lib.bitLen at hl; omega)
  have := Nat.mul_lt_mul_of_pos_right h3 (Nat.two_pow_pos y.toNat)
  have e : (2 : Nat) ^ 64 = 18446744073709551616 := by decide
  rw [e] at h2; omega
theorem outQ_down {neg : Bool} {P : Nat} {y : Int} (hy : y < 0) : outQ neg P y = P / 2 ^ (-y).toNat + if (decide (P % 2 ^ (-y).toNat ≠ 0) && neg) = true then 1 else 0 := by
  unfold outQ; rw [if_neg (by omega)]
end Go.Proofs.Ytkfpopilkagedaa
