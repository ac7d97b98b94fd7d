/- The bits of a float's word, taken out and laid in. -/
import Derived.Test.YtkfpopilkagedaaFloatB
import Derived.Laws.BitsAllLaws
import Derived.Laws.Bits128
import Derived.Laws.FloatArith
set_option linter.unusedSimpArgs false
set_option linter.unusedVariables false
namespace Go.Proofs.Ytkfpopilkagedaa
open Go.RowKit Mo
theorem sign_off (b : Nat) (hb : b < 18446744073709551616) : bits .andNot .u64 (b : Int) 9223372036854775808 = (rung b : Nat) := by
  rw [show (9223372036854775808 : Int) = ((9223372036854775808 : Nat) : Int) from rfl, u64_andNot_nat _ _ hb (by decide)]
  exact congrArg Int.ofNat (Nat.and_two_pow_sub_one_eq_mod b 63)
theorem field_of (b : Nat) (hb : b < 18446744073709551616) : bits .and .u64 (b / 4503599627370496 : Nat) 2047 = (rung b / 4503599627370496 : Nat) := by
  rw [show (2047 : Int) = ((2047 : Nat) : Int) from rfl, u64_and_nat _ _ (by omega) (by decide)]
  refine congrArg Int.ofNat ?_
  rw [show (b / 4503599627370496) &&& 2047 = b / 4503599627370496 % 2 ^ 11 from Nat.and_two_pow_sub_one_eq_mod _ 11]
  unfold rung; omega
theorem join63 (x y : Nat) (h : y < 9223372036854775808) : x * 9223372036854775808 ||| y = x * 9223372036854775808 + y := nat_join 63 (x * 2 ^ 63) y (Nat.mul_mod_left _ _) h
theorem join52 (x y : Nat) (h : y < 4503599627370496) : x * 4503599627370496 ||| y = x * 4503599627370496 + y := nat_join 52 (x * 2 ^ 52) y (Nat.mul_mod_left _ _) h
set_option maxRecDepth 100000 in
/-- the sign and the fraction kept, another exponent laid in -/
theorem field_lay (b c : Nat) (hb : b < 18446744073709551616) (hc : c < 2048) :
    bits .or .u64 (bits .andNot .u64 (b : Int) 9218868437227405312) (c * 4503599627370496 : Nat) = ((if isNeg b then 9223372036854775808 else 0) + c * 4503599627370496 + rung b % 4503599627370496 : Nat) := by
  rw [show (9218868437227405312 : Int) = ((9218868437227405312 : Nat) : Int) from rfl, u64_andNot_nat _ _ hb (by decide)]
  have hm : b % 4503599627370496 < 4503599627370496 := Nat.mod_lt _ (by decide)
  have hm' : b % 4503599627370496 < 9223372036854775808 := by omega
  have e : b &&& (18446744073709551615 - 9218868437227405312) = b / 9223372036854775808 * 9223372036854775808 + b % 4503599627370496 := by
    rw [show (18446744073709551615 - 9218868437227405312 : Nat) = 2 ^ 63 ||| (2 ^ 52 - 1) by decide, Nat.and_or_distrib_left, nat_bit, Nat.and_two_pow_sub_one_eq_mod]
    simp only [Nat.reducePow]
    rw [join63 _ _ hm']
    omega
  have hlt : b / 9223372036854775808 * 9223372036854775808 + b % 4503599627370496 < 18446744073709551616 := by omega
  have hcm : c * 4503599627370496 ≤ 9218868437227405312 := Nat.le_trans (Nat.mul_le_mul_right 4503599627370496 (Nat.le_of_lt_succ hc)) (by decide)
  have hcl : c * 4503599627370496 < 18446744073709551616 := Nat.lt_of_le_of_lt hcm (by decide)
  rw [e, u64_or_nat _ _ hlt hcl]
  refine congrArg Int.ofNat ?_
  have hc' : c * 4503599627370496 + b % 4503599627370496 < 9223372036854775808 := Nat.lt_of_le_of_lt (Nat.add_le_add hcm (Nat.le_of_lt_succ (show _ < 4503599627370495 + 1 from hm))) (by decide)
  rw [← join63 _ _ hm', Nat.or_assoc, Nat.or_comm (b % 4503599627370496), join52 _ _ hm, join63 _ _ hc']
  clear hcm hcl hc' hc
  unfold isNeg rung
  by_cases h : 9223372036854775808 ≤ b
  · rw [if_pos (by simpa using h)]; omega
  · rw [if_neg (by simpa using h)]; omega
theorem read_normal (b : Nat) (hb : b < 18446744073709551616) (h : 4503599627370496 ≤ rung b) (h2 : rung b < 9218868437227405312) :
    FloatKind.f64.format.read b = .number (isNeg b) (4503599627370496 + rung b % 4503599627370496) (-1074 + (rung b / 4503599627370496 - 1 : Nat)) := by
  refine (read_eq b hb).trans ?_
  rw [if_neg (by omega), if_pos h2]
theorem word_back (b : Nat) (hb : b < 18446744073709551616) : Ieee.double.word (isNeg b) (rung b) = b := by
  rw [word_eq]; unfold isNeg rung
  by_cases h : 9223372036854775808 ≤ b
  · rw [if_pos (by simpa using h)]; omega
  · rw [if_neg (by simpa using h)]; omega
theorem mul_one_frac (b : Nat) (hb : b < 18446744073709551616) (h : rung b / 4503599627370496 = 1075) : floatBits .mul .f64 4607182418800017408 b = some b := by
  have h1 : 4503599627370496 ≤ rung b := by omega
  have h2 : rung b < 9218868437227405312 := by omega
  show ((FloatKind.f64.format.read 4607182418800017408).product (FloatKind.f64.format.read b)).map FloatKind.f64.format.write = some b
  rw [read_normal b hb h1 h2, h, show FloatKind.f64.format.read 4607182418800017408 = .number false 4503599627370496 (-52) by decide]
  show some (Ieee.double.nearest (false ^^ isNeg b) (4503599627370496 * (4503599627370496 + rung b % 4503599627370496)) (-52 + (-1074 + ((1075 - 1 : Nat) : Int)))) = some b
  refine congrArg some ?_
  have key := nearest_normal (isNeg b) (4503599627370496 + rung b % 4503599627370496) 52 0 (by omega) (by omega) (by decide) (by decide)
  rw [Bool.false_xor, Nat.mul_comm 4503599627370496, show (-52 + (-1074 + ((1075 - 1 : Nat) : Int))) = (0 : Int) - (52 : Nat) by decide]
  refine key.trans ?_
  rw [show (((0 : Int) + 1074).toNat * 4503599627370496 + (4503599627370496 + rung b % 4503599627370496)) = rung b by
    rw [show ((0 : Int) + 1074).toNat = 1074 from rfl]; omega]
  exact word_back b hb
theorem to_i64 (b : Nat) (hb : b < 18446744073709551616) (h : rung b / 4503599627370496 = 1075) :
    floatToIntVal .f64 b .i64 = some (if isNeg b then -((4503599627370496 + rung b % 4503599627370496 : Nat) : Int) else (4503599627370496 + rung b % 4503599627370496 : Nat)) := by
  have h1 : 4503599627370496 ≤ rung b := by omega
  have h2 : rung b < 9218868437227405312 := by omega
  have hc : ∀ m : Nat, Ieee.Toward.zero.cut (isNeg b) m 0 = m := by
    intro m; unfold Ieee.Toward.cut; simp [Nat.mod_one]
  have e : (FloatKind.f64.decode b).toInt .zero = some (if isNeg b then -((4503599627370496 + rung b % 4503599627370496 : Nat) : Int) else (4503599627370496 + rung b % 4503599627370496 : Nat)) := by
    unfold FloatKind.decode
    rw [read_normal b hb h1 h2, h]
    show some (Ieee.signed (isNeg b) (Ieee.Toward.zero.cut (isNeg b) ((4503599627370496 + rung b % 4503599627370496) <<< ((-1074 : Int) + ((1075 - 1 : Nat) : Int)).toNat) (-((-1074 : Int) + ((1075 - 1 : Nat) : Int))).toNat) 0) = _
    rw [show ((-1074 : Int) + ((1075 - 1 : Nat) : Int)).toNat = 0 by decide, show (-((-1074 : Int) + ((1075 - 1 : Nat) : Int))).toNat = 0 by decide]
    simp only [Nat.shiftLeft_zero, hc, Ieee.signed]
  unfold floatToIntVal
  rw [e]
  have hm : rung b % 4503599627370496 < 4503599627370496 := Nat.mod_lt _ (by decide)
  generalize rung b % 4503599627370496 = M at hm ⊢
  have g1 : IntKind.i64.min = -9223372036854775808 := by decide
  have g2 : IntKind.i64.max = 9223372036854775807 := by decide
  simp only [g1, g2]
  rw [if_pos]
  cases isNeg b <;> simp <;> omega
/-- a number that isn't 0 as a normal one, and its places more -/
def nrm (b : Nat) : Nat := if rung b < 4503599627370496 then (if isNeg b then 9223372036854775808 else 0) + ((rung b).log2 * 4503599627370496 + rung b * 2 ^ (52 - (rung b).log2)) else b
def nrx (b : Nat) : Int := if rung b < 4503599627370496 then -52 else 0
theorem sub_bounds (r : Nat) (h0 : 0 < r) (h2 : r < 4503599627370496) : r.log2 ≤ 51 ∧ 4503599627370496 ≤ r * 2 ^ (52 - r.log2) ∧ r * 2 ^ (52 - r.log2) < 9007199254740992 := by
  have hlr : r.log2 ≤ 51 := by
    have := (Nat.log2_lt (Nat.ne_of_gt h0) (k := 52)).2 (by omega)
    omega
  have ha := Nat.log2_self_le (Nat.ne_of_gt h0)
  have hb := @Nat.lt_log2_self r
  have e52 : (4503599627370496 : Nat) = 2 ^ (52 - r.log2) * 2 ^ r.log2 := by rw [← Nat.pow_add, show 52 - r.log2 + r.log2 = 52 from by omega]
  have h1 : 4503599627370496 ≤ r * 2 ^ (52 - r.log2) := by
    rw [e52, Nat.mul_comm]; exact Nat.mul_le_mul_right _ ha
  have h3 : r * 2 ^ (52 - r.log2) < 9007199254740992 := by
    have : r * 2 ^ (52 - r.log2) < 2 ^ (r.log2 + 1) * 2 ^ (52 - r.log2) := Nat.mul_lt_mul_of_pos_right hb (Nat.two_pow_pos _)
    rw [← Nat.pow_add, show r.log2 + 1 + (52 - r.log2) = 53 from by omega] at this
    exact this
  exact ⟨hlr, h1, h3⟩
theorem nrm_spec (b : Nat) (hb : b < 18446744073709551616) (h0 : 0 < rung b) (h2 : rung b < 9218868437227405312) :
    nrm b < 18446744073709551616 ∧ 4503599627370496 ≤ rung (nrm b) ∧ rung (nrm b) < 9218868437227405312 ∧ isNeg (nrm b) = isNeg b := by
  unfold nrm
  by_cases h : rung b < 4503599627370496
  · rw [if_pos h]
    obtain ⟨g1, g2, g3⟩ := sub_bounds _ h0 h
    generalize rung b * 2 ^ (52 - (rung b).log2) = y at *
    generalize (rung b).log2 = l at *
    have e : (if isNeg b = true then 9223372036854775808 else 0) = 9223372036854775808 ∨ (if isNeg b = true then 9223372036854775808 else 0) = 0 := by cases isNeg b <;> simp
    unfold rung
    have e3 : isNeg ((if isNeg b = true then 9223372036854775808 else 0) + (l * 4503599627370496 + y)) = isNeg b := by
      unfold isNeg
      by_cases h9 : 9223372036854775808 ≤ b
      · simp [h9]
      · simp [h9]; omega
    refine ⟨?_, ?_, ?_, e3⟩ <;> rcases e with e | e <;> rw [e] <;> omega
  · rw [if_neg h]; exact ⟨hb, by omega, h2, rfl⟩
theorem mul_up (b : Nat) (hb : b < 18446744073709551616) (h0 : 0 < rung b) (h : rung b < 4503599627370496) : floatBits .mul .f64 b 4841369599423283200 = some (nrm b) := by
  show ((FloatKind.f64.format.read b).product (FloatKind.f64.format.read 4841369599423283200)).map FloatKind.f64.format.write = some (nrm b)
  rw [show FloatKind.f64.format.read b = .number (isNeg b) (rung b) (-1074) from (read_eq b hb).trans (if_pos h), show FloatKind.f64.format.read 4841369599423283200 = .number false 4503599627370496 0 by decide]
  show some (Ieee.double.nearest (isNeg b ^^ false) (rung b * 4503599627370496) (-1074 + 0)) = _
  rw [Bool.xor_false, show (-1074 + 0 : Int) = -1074 by decide, nearest_up _ _ h0 h, word_eq]
  unfold nrm
  rw [if_pos h]
  cases isNeg b <;> simp
theorem i64_and2047 (n : Int) : bits .and .i64 n 2047 = n % 2048 := by
  have h : (BitVec.ofInt 64 2047).toNat = 2 ^ 11 - 1 := by decide
  have key : (BitVec.ofInt 64 n &&& BitVec.ofInt 64 2047).toNat = (n % ((2 ^ 64 : Nat) : Int)).toNat % 2 ^ 11 := by
    rw [BitVec.toNat_and, BitVec.toNat_ofInt, h, Nat.and_two_pow_sub_one_eq_mod]
  show IntKind.i64.wrap ((BitVec.ofInt 64 n &&& BitVec.ofInt 64 2047).toNat : Nat) = n % 2048
  rw [key, IntKind.wrap_i64]
  omega
end Go.Proofs.Ytkfpopilkagedaa
