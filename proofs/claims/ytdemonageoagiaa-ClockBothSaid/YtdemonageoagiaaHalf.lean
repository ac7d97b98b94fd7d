/- Half a rate: what a float divided by two is, and what a product with it allows. -/
import Derived.Test.YtdemonageoagiaaCkR
set_option linter.unusedSimpArgs false
set_option linter.unusedVariables false
namespace Go.Proofs.Ytdemonageoagiaa
open Go.RowKit Mo
theorem read_fin (b : Nat) (hb : b < 18446744073709551616) (h : rung b < 9218868437227405312) : FloatKind.f64.format.read b = .number (isNeg b) (Mo.part b) ((expf b : Int) - 1075) := by
  refine (read_eq b hb).trans ?_
  unfold Mo.part expf
  by_cases h0 : rung b < 4503599627370496
  · rw [if_pos h0, if_pos h0, if_pos h0]; rfl
  · rw [if_neg h0, if_pos h, if_neg h0, if_neg h0]
    congr 1
    omega
theorem read_two : FloatKind.f64.format.read 4611686018427387904 = .number false 4503599627370496 (-51) := by decide
theorem shl_div (m k : Nat) (h : 52 ≤ k) : (m <<< k) / 4503599627370496 = m * 2 ^ (k - 52) ∧ (m <<< k) % 4503599627370496 = 0 := by
  obtain ⟨j, rfl⟩ : ∃ j, k = j + 52 := ⟨k - 52, by omega⟩
  have e : (4503599627370496 : Nat) = 2 ^ 52 := by decide
  rw [Nat.shiftLeft_eq, Nat.pow_add, ← Nat.mul_assoc, e, Nat.add_sub_cancel]
  exact ⟨Nat.mul_div_cancel _ (Nat.two_pow_pos _), Nat.mul_mod_left _ _⟩
/-- the quotient by two, of a number of at most 53 digits -/
theorem half_num (s : Bool) (m : Nat) (i : Int) (hm : m.log2 ≤ 52) : (Ieee.Datum.number s m i).quotient 54 (.number false 4503599627370496 (-51)) = some (.number s (m * 2 ^ (55 - m.log2)) (i + m.log2 - 56)) := by
  have hl : Nat.log2 4503599627370496 = 52 := by decide
  have hd := shl_div m (54 + 52 - m.log2) (by omega)
  simp only [Ieee.Datum.quotient, hl, hd.1, hd.2]
  rw [if_neg (by decide)]
  simp only [Bool.xor_false, bne_self_eq_false, Bool.toNat_false, Nat.add_zero]
  congr 2
  · rw [show 55 - m.log2 = (54 + 52 - m.log2 - 52) + 1 by omega, Nat.pow_succ]
    generalize 2 ^ (54 + 52 - m.log2 - 52) = z
    rw [Nat.mul_comm 2, Nat.mul_assoc]
  · omega
theorem cut_le (neg : Bool) (n d : Nat) (hd : d ≤ n.log2 + 2) : Ieee.Toward.even.cut neg n d ≤ n / 2 ^ d + 1 := by
  unfold Ieee.Toward.cut
  simp only [Nat.min_eq_left hd, Nat.shiftLeft_eq, Nat.one_mul]
  generalize (decide (2 ^ d < 2 * (n % 2 ^ d)) || (2 ^ d == 2 * (n % 2 ^ d) && n / 2 ^ d % 2 == 1)) = q
  cases q <;> simp
/-- half of a very small number is very small -/
theorem near_small (b : Nat) (h0 : 0 < b) (h : b < 9007199254740992) : Ieee.double.nearest false (b * 2 ^ (55 - b.log2)) (-1074 + b.log2 - 56) ≤ 4503599627370496 := by
  have hl : b.log2 ≤ 52 := by
    have := (Nat.log2_lt (Nat.ne_of_gt h0) (k := 53)).2 (by omega)
    omega
  have ha := Nat.log2_self_le (Nat.ne_of_gt h0)
  have hL : (b * 2 ^ (55 - b.log2)).log2 = 55 := by
    refine log2_of ?_ ?_
    · rw [show 55 = b.log2 + (55 - b.log2) by omega, Nat.pow_add]
      have e : b.log2 + (55 - b.log2) - b.log2 = 55 - b.log2 := by omega
      rw [show (b.log2 + (55 - b.log2)) - b.log2 = 55 - b.log2 by omega]
      exact Nat.mul_le_mul_right _ ha
    · rw [show 55 + 1 = (b.log2 + 1) + (55 - b.log2) by omega, Nat.pow_add]
      exact Nat.mul_lt_mul_of_pos_right Nat.lt_log2_self (Nat.two_pow_pos _)
  have hne : b * 2 ^ (55 - b.log2) ≠ 0 := by
    have : 0 < b * 2 ^ (55 - b.log2) := Nat.mul_pos h0 (Nat.two_pow_pos _)
    omega
  unfold Ieee.Format.nearest
  rw [if_neg hne]
  have f52 : Ieee.double.fractionBits = 52 := rfl
  have lp : Ieee.double.leastPlace = -1074 := by decide
  have bi : Ieee.double.binade = 4503599627370496 := by decide
  have ir : Ieee.double.infRung = 9218868437227405312 := by decide
  simp only [hL, f52, lp, bi, ir]
  have e1 : max (-1074 + (b.log2 : Int) - 56 + ((55 : Nat) : Int) - ((52 : Nat) : Int)) (-1074) = -1074 := by omega
  have e2 : (-1074 + (b.log2 : Int) - 56 - -1074).toNat = 0 := by omega
  have e3 : (-1074 - (-1074 + (b.log2 : Int) - 56)).toNat = 56 - b.log2 := by omega
  rw [e1, e2, e3, Nat.shiftLeft_zero]
  have hc := cut_le false (b * 2 ^ (55 - b.log2)) (56 - b.log2) (by rw [hL]; omega)
  have hq : b * 2 ^ (55 - b.log2) / 2 ^ (56 - b.log2) = b / 2 := by
    rw [show 56 - b.log2 = (55 - b.log2) + 1 by omega, Nat.pow_succ, Nat.mul_comm (2 ^ (55 - b.log2)) 2]
    exact Nat.mul_div_mul_right _ _ (Nat.two_pow_pos _)
  rw [hq] at hc
  rw [word_eq]
  simp only [Bool.false_eq_true, if_false]
  omega
theorem big_pow (k : Nat) (h : 90 ≤ k) : 4294967295 * 4503599627370496 < 2 ^ k := Nat.lt_of_lt_of_le (show 4294967295 * 4503599627370496 < 2 ^ 90 by decide) (Nat.pow_le_pow_right (by decide) h)
/-- what a product with half a rate allows -/
def HalfOf (b q : Nat) : Prop := q < 18446744073709551616 ∧ ∀ d : Int, 0 ≤ d → d ≤ 4294967295 → prodE d q false = 0 ∧ 0 ≤ prodV d q false ∧ prodV d q false ≤ d ∧ 2 * (prodV d q false * ((2 ^ (1075 - expf b) : Nat) : Int)) ≤ d * (Mo.part b : Int)
theorem half_zero (b q : Nat) (hq : rateOk q = true) (hp : ∀ d : Nat, d ≤ 4294967295 → d * Mo.part q / 2 ^ (1075 - expf q) = 0) : HalfOf b q := by
  refine ⟨by unfold rateOk at hq; simp at hq; omega, fun d h0 h1 => ?_⟩
  obtain ⟨e1, e2⟩ := prod_fdiv d q hq h0 (by omega)
  rw [hp d.natAbs (by omega)] at e2
  have e3 : prodV d q false = 0 := by rw [e2]; rfl
  rw [e3]
  refine ⟨e1, by omega, h0, ?_⟩
  rw [Int.zero_mul, Int.mul_zero]
  exact Int.mul_nonneg h0 (Int.natCast_nonneg _)
theorem half_is (b : Nat) (h : rate6 b = true) : ∃ q, floatBits .quo .f64 b 4611686018427387904 = some q ∧ HalfOf b q := by
  unfold rate6 at h
  simp at h
  have hdiv : ∀ b, floatBits .quo .f64 b 4611686018427387904 = ((FloatKind.f64.format.read b).quotient 54 (FloatKind.f64.format.read 4611686018427387904)).map FloatKind.f64.format.write := fun _ => rfl
  rcases h with h | rfl
  rotate_left
  · refine ⟨9223372036854775808, by decide +kernel, half_zero _ _ (by decide) fun d _ => ?_⟩
    rw [show Mo.part 9223372036854775808 = 0 by decide]; simp
  have hr : rung b = b := by unfold rung; omega
  have hn : isNeg b = false := by unfold isNeg; simp; omega
  rcases Nat.eq_zero_or_pos b with rfl | hb0
  · refine ⟨0, by decide +kernel, half_zero _ _ (by decide) fun d _ => ?_⟩
    rw [show Mo.part 0 = 0 by decide]; simp
  rcases Nat.lt_or_ge b 9007199254740992 with hs | hs
  · have hpt : Mo.part b = b := by unfold Mo.part; rw [hr]; split <;> omega
    have hex : expf b = 1 := by unfold expf; rw [hr]; split <;> omega
    have hl : b.log2 ≤ 52 := by
      have := (Nat.log2_lt (Nat.ne_of_gt hb0) (k := 53)).2 (by omega)
      omega
    have hw := near_small b hb0 hs
    obtain ⟨q, hq⟩ : ∃ q, Ieee.double.nearest false (b * 2 ^ (55 - b.log2)) (-1074 + b.log2 - 56) = q := ⟨_, rfl⟩
    refine ⟨q, ?_, ?_⟩
    · rw [hdiv, read_fin b (by omega) (by omega), read_two, hn, hpt, hex, half_num _ _ _ hl]
      show some (Ieee.double.nearest false (b * 2 ^ (55 - b.log2)) (((1 : Nat) : Int) - 1075 + b.log2 - 56)) = some q
      rw [show (((1 : Nat) : Int) - 1075) = -1074 by decide, hq]
    · rw [hq] at hw
      refine half_zero b q (by unfold rateOk; simp; omega) fun d hd => ?_
      have hqr : rung q = q := by unfold rung; omega
      have hpq : Mo.part q ≤ 4503599627370496 := by unfold Mo.part; rw [hqr]; split <;> omega
      have hxq : expf q ≤ 1 := by unfold expf; rw [hqr]; split <;> omega
      refine Nat.div_eq_of_lt ?_
      have h1 : d * Mo.part q ≤ 4294967295 * 4503599627370496 := Nat.mul_le_mul hd hpq
      exact Nat.lt_of_le_of_lt h1 (big_pow _ (by omega))
  · have hm : b % 4503599627370496 < 4503599627370496 := Nat.mod_lt _ (by decide)
    have hpt : Mo.part b = 4503599627370496 + b % 4503599627370496 := by unfold Mo.part; rw [hr, if_neg (by omega)]
    have hex : expf b = b / 4503599627370496 := by unfold expf; rw [hr, if_neg (by omega)]
    have hl : (Mo.part b).log2 = 52 := log2_of (by rw [hpt]; omega) (by rw [hpt]; omega)
    refine ⟨b - 4503599627370496, ?_, ?_⟩
    · rw [hdiv, read_fin b (by omega) (by omega), read_two, hn, half_num _ _ _ (by omega), hl]
      show some (Ieee.double.nearest false (Mo.part b * 2 ^ 3) ((expf b : Int) - 1075 + ((52 : Nat) : Int) - 56)) = _
      have key := nearest_normal false (Mo.part b) 3 ((expf b : Int) - 1076) (by rw [hpt]; omega) (by rw [hpt]; omega) (by rw [hex]; omega) (by rw [hex]; omega)
      rw [show (expf b : Int) - 1075 + ((52 : Nat) : Int) - 56 = (expf b : Int) - 1076 - ((3 : Nat) : Int) by omega, key, word_eq]
      simp only [Bool.false_eq_true, if_false]
      refine congrArg some ?_
      rw [hpt, hex]
      omega
    · have hqr : rung (b - 4503599627370496) = b - 4503599627370496 := by unfold rung; omega
      have hpq : Mo.part (b - 4503599627370496) = Mo.part b := by rw [hpt]; unfold Mo.part; rw [hqr, if_neg (by omega)]; omega
      have hxq : expf (b - 4503599627370496) = expf b - 1 := by rw [hex]; unfold expf; rw [hqr, if_neg (by omega)]; omega
      have hq : rateOk (b - 4503599627370496) = true := by unfold rateOk; simp; omega
      refine ⟨by omega, fun d h0 h1 => ?_⟩
      obtain ⟨e1, e2⟩ := prod_fdiv d _ hq h0 (by omega)
      obtain ⟨_, _, h4⟩ := rate_parts _ hq
      rw [hpq, hxq] at e2 h4
      have hx1 : 2 ≤ expf b := by rw [hex]; omega
      have hx2 : expf b ≤ 1023 := by rw [hex]; omega
      rw [e2]
      obtain ⟨n, rfl⟩ : ∃ n : Nat, d = n := ⟨d.toNat, by omega⟩
      simp only [Int.natAbs_natCast]
      rw [show 1075 - (expf b - 1) = (1075 - expf b) + 1 by omega, Nat.pow_succ] at h4 ⊢
      have hp : 0 < 2 ^ (1075 - expf b) := Nat.two_pow_pos _
      generalize 2 ^ (1075 - expf b) = D at *
      generalize Mo.part b = N at *
      have h5 : n * N / (D * 2) ≤ n := by
        have := Nat.div_le_div_right (c := D * 2) (Nat.mul_le_mul_left n h4)
        rwa [Nat.mul_div_cancel _ (by omega)] at this
      have h6 : n * N / (D * 2) * (D * 2) ≤ n * N := Nat.div_mul_le_self _ _
      refine ⟨e1, Int.natCast_nonneg _, by exact_mod_cast h5, ?_⟩
      have h7 : 2 * (n * N / (D * 2) * D) ≤ n * N := by
        rw [show 2 * (n * N / (D * 2) * D) = n * N / (D * 2) * (D * 2) by rw [Nat.mul_comm 2, Nat.mul_assoc]]
        exact h6
      exact_mod_cast h7
end Go.Proofs.Ytdemonageoagiaa
