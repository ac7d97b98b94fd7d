/- NumHalves: the walk. -/
import Derived.Test.YtmnpmcfhmhkibaaKeyW
set_option linter.unusedSimpArgs false
set_option linter.unusedVariables false
namespace Go.Proofs.Ytmnpmcfhmhkibaa
open Go.RowKit Mo
/-- the word of a half, a quarter and so on -/
def halfW (j : Nat) : Nat := (1023 - j) * 4503599627370496
theorem half_parts (j : Nat) (h : j ≤ 63) : rung (halfW j) = (1023 - j) * 4503599627370496 ∧ isNeg (halfW j) = false ∧ expf (halfW j) = 1023 - j ∧ Mo.part (halfW j) = 4503599627370496 ∧ halfW j < 9223372036854775808 := by
  have h1 : halfW j < 9223372036854775808 := by unfold halfW; omega
  have h2 : rung (halfW j) = (1023 - j) * 4503599627370496 := by unfold rung halfW; omega
  refine ⟨h2, by unfold isNeg; simp; omega, ?_, ?_, h1⟩
  · unfold expf; rw [h2, if_neg (by omega)]; omega
  · unfold Mo.part; rw [h2, if_neg (by omega)]; omega
theorem half_neg (j : Nat) (h : j ≤ 63) : rung (halfW j + 9223372036854775808) = (1023 - j) * 4503599627370496 ∧ isNeg (halfW j + 9223372036854775808) = true ∧ expf (halfW j + 9223372036854775808) = 1023 - j ∧ Mo.part (halfW j + 9223372036854775808) = 4503599627370496 := by
  have h2 : rung (halfW j + 9223372036854775808) = (1023 - j) * 4503599627370496 := by unfold rung halfW; omega
  refine ⟨h2, by unfold isNeg; simp, ?_, ?_⟩
  · unfold expf; rw [h2, if_neg (by omega)]; omega
  · unfold Mo.part; rw [h2, if_neg (by omega)]; omega
theorem half_sq (A j : Nat) (h : j ≤ 63) : sq (A * 4503599627370496) (1023 - j) = A / 2 ^ j ∧ sl (A * 4503599627370496) (1023 - j) = decide (A % 2 ^ j ≠ 0) := by
  have e : 1075 - (1023 - j) = 52 + j := by omega
  unfold sq sl
  rw [if_neg (by omega), e, decide_eq_true (by omega), Nat.pow_add, show (2 : Nat) ^ 52 = 4503599627370496 from rfl, Nat.mul_comm A, Nat.mul_div_mul_left _ _ (by decide), Nat.mul_mod_mul_left]
  refine ⟨rfl, ?_⟩
  rw [Bool.true_and, Bool.eq_iff_iff, decide_eq_true_iff, decide_eq_true_iff]
  omega
theorem cut_up (n : Int) (D : Nat) (hD : 0 < D) (hn : n ≤ 0) : -((n.natAbs / D + if n.natAbs % D ≠ 0 then 1 else 0 : Nat) : Int) = n / (D : Int) := by
  obtain ⟨A, rfl⟩ : ∃ A : Nat, n = -(A : Int) := ⟨n.natAbs, by omega⟩
  rw [Int.natAbs_neg, Int.natAbs_natCast]
  have h1 := Nat.div_add_mod A D
  have h3 := Nat.mod_lt A hD
  symm
  generalize hq : A / D = q at *
  generalize hu : A % D = u at *
  have hA : (A : Int) = D * q + u := by rw [← h1]; simp
  rw [hA]
  split
  · rw [show -((D : Int) * q + u) = (D - u) + D * (-(q + 1 : Nat) : Int) by rw [Int.mul_neg]; push_cast; rw [Int.mul_add]; omega]
    rw [Int.add_mul_ediv_left _ _ (by omega), Int.ediv_eq_zero_of_lt (by omega) (by omega)]
    omega
  · have hu0 : u = 0 := by omega
    rw [hu0]
    rw [show -((D : Int) * q + ((0 : Nat) : Int)) = D * (-(q : Int)) by rw [Int.mul_neg]; simp]
    rw [Int.mul_ediv_cancel_left _ (by omega)]
    omega
theorem cut_down (n : Int) (D : Nat) (hn : 0 ≤ n) : ((n.natAbs / D : Nat) : Int) = n / (D : Int) := by
  obtain ⟨A, rfl⟩ : ∃ A : Nat, n = (A : Int) := ⟨n.natAbs, by omega⟩
  simp
theorem half_prod (n : Int) (j : Nat) (h : j ≤ 63) (n1 : -9223372036854775808 ≤ n) (n2 : n ≤ 9223372036854775807) :
    prodE n (halfW j) false = 0 ∧ prodV n (halfW j) false = n / ((2 ^ j : Nat) : Int) := by
  obtain ⟨h1, h2, h3, h4, _⟩ := half_parts j h
  obtain ⟨k1, k2⟩ := half_sq n.natAbs j h
  have hD : 0 < 2 ^ j := Nat.two_pow_pos _
  have hp : pabs n (halfW j) false = n.natAbs / 2 ^ j + if (decide (n < 0) && decide (n.natAbs % 2 ^ j ≠ 0)) = true then 1 else 0 := by
    unfold pabs pneg
    rw [h3, h4, k1, k2, h2]
    cases decide (n < 0) <;> simp
  have hq : n.natAbs / 2 ^ j ≤ n.natAbs := Nat.div_le_self _ _
  have hle : n.natAbs / 2 ^ j + (if n.natAbs % 2 ^ j ≠ 0 then 1 else 0) ≤ n.natAbs := by
    split
    · rename_i hne
      have : 1 < 2 ^ j := by
        rcases (show j = 0 ∨ 0 < j by omega) with rfl | hj
        · simp [Nat.mod_one] at hne
        · exact Nat.one_lt_two_pow (by omega)
      have h5 := Nat.div_add_mod n.natAbs (2 ^ j)
      have h6 : 2 * (n.natAbs / 2 ^ j) ≤ 2 ^ j * (n.natAbs / 2 ^ j) := Nat.mul_le_mul_right _ this
      generalize 2 ^ j * (n.natAbs / 2 ^ j) = z at *
      omega
    · omega
  have hE : prodE n (halfW j) false = 0 := by
    unfold prodE
    rw [h1, if_neg (by omega), if_neg (by omega), hp]
    rw [if_pos]
    unfold pfit pneg
    rw [h2]
    by_cases hn : n < 0
    · rw [decide_eq_true hn]; simp; split at hle <;> split <;> omega
    · rw [decide_eq_false hn]; simp; omega
  refine ⟨hE, ?_⟩
  unfold prodV
  rw [if_pos hE, hp]
  unfold pneg
  rw [h2]
  by_cases hn : n < 0
  · rw [decide_eq_true hn]
    have := cut_up n (2 ^ j) hD (by omega)
    simpa using this
  · rw [decide_eq_false hn]
    have := cut_down n (2 ^ j) (by omega)
    simpa using this
theorem half_prod_neg (n : Int) (j : Nat) (h : j ≤ 63) (n1 : -9223372036854775808 ≤ n) (n2 : n ≤ 9223372036854775807) (hx : n ≠ -9223372036854775808 ∨ 0 < j) :
    prodE n (halfW j + 9223372036854775808) false = 0 ∧ prodV n (halfW j + 9223372036854775808) false = (-n) / ((2 ^ j : Nat) : Int) := by
  obtain ⟨h1, h2, h3, h4⟩ := half_neg j h
  obtain ⟨k1, k2⟩ := half_sq n.natAbs j h
  have hD : 0 < 2 ^ j := Nat.two_pow_pos _
  have hp : pabs n (halfW j + 9223372036854775808) false = n.natAbs / 2 ^ j + if (!decide (n < 0) && decide (n.natAbs % 2 ^ j ≠ 0)) = true then 1 else 0 := by
    unfold pabs pneg
    rw [h3, h4, k1, k2, h2]
    cases decide (n < 0) <;> simp
  have hq : n.natAbs / 2 ^ j ≤ n.natAbs := Nat.div_le_self _ _
  have hq2 : 0 < j → n.natAbs / 2 ^ j * 2 ≤ n.natAbs := fun hj => by
    have h5 := Nat.div_mul_le_self n.natAbs (2 ^ j)
    have h6 : n.natAbs / 2 ^ j * 2 ≤ n.natAbs / 2 ^ j * 2 ^ j := Nat.mul_le_mul_left _ (show 2 ^ 1 ≤ 2 ^ j from Nat.pow_le_pow_right (by decide) hj)
    omega
  have hle : n.natAbs / 2 ^ j + (if n.natAbs % 2 ^ j ≠ 0 then 1 else 0) ≤ n.natAbs := by
    split
    · rename_i hne
      have : 1 < 2 ^ j := by
        rcases (show j = 0 ∨ 0 < j by omega) with rfl | hj
        · simp [Nat.mod_one] at hne
        · exact Nat.one_lt_two_pow (by omega)
      have h5 := Nat.div_add_mod n.natAbs (2 ^ j)
      have h6 : 2 * (n.natAbs / 2 ^ j) ≤ 2 ^ j * (n.natAbs / 2 ^ j) := Nat.mul_le_mul_right _ this
      generalize 2 ^ j * (n.natAbs / 2 ^ j) = z at *
      omega
    · omega
  have hE : prodE n (halfW j + 9223372036854775808) false = 0 := by
    unfold prodE
    rw [h1, if_neg (by omega), if_neg (by omega), hp]
    rw [if_pos]
    unfold pfit pneg
    rw [h2]
    by_cases hn : n < 0
    · rw [decide_eq_true hn]; simp
      rcases hx with hx | hx
      · omega
      · have := hq2 hx; omega
    · rw [decide_eq_false hn]; simp; split at hle <;> split <;> omega
  refine ⟨hE, ?_⟩
  unfold prodV
  rw [if_pos hE, hp]
  unfold pneg
  rw [h2]
  by_cases hn : n < 0
  · rw [decide_eq_true hn]
    have := cut_down (-n) (2 ^ j) (by omega)
    rw [Int.natAbs_neg] at this
    simpa using this
  · rw [decide_eq_false hn]
    have := cut_up (-n) (2 ^ j) hD (by omega)
    rw [Int.natAbs_neg] at this
    simpa using this
theorem half_over : prodE (-9223372036854775808) (halfW 0 + 9223372036854775808) false = 11 := by decide +kernel
theorem half_least : ∀ j : Fin 64, (9223372036854775808 : Int) / ((2 ^ j.val : Nat) : Int) = -((-9223372036854775808 : Int) / ((2 ^ j.val : Nat) : Int)) := by decide +kernel
end Go.Proofs.Ytmnpmcfhmhkibaa
