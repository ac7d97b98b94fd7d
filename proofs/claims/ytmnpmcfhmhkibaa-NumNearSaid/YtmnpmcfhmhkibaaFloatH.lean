/- A float made whole: its word, and what it is as an int64. -/
import Derived.Test.YtmnpmcfhmhkibaaFloatG
set_option linter.unusedSimpArgs false
set_option linter.unusedVariables false
namespace Go.Proofs.Ytmnpmcfhmhkibaa
open Go.RowKit Mo
theorem nearest_int (neg : Bool) (q : Nat) (h0 : 0 < q) (h : q < 9007199254740992) : Ieee.double.nearest neg q 0 = Ieee.double.word neg ((q.log2 + 1022) * 4503599627370496 + q * 2 ^ (52 - q.log2)) := by
  have hne : q ≠ 0 := by omega
  have hl : q.log2 ≤ 52 := by
    have := (Nat.log2_lt hne (k := 53)).2 (by omega)
    omega
  unfold Ieee.Format.nearest
  rw [if_neg hne]
  have f52 : Ieee.double.fractionBits = 52 := rfl
  have lp : Ieee.double.leastPlace = -1074 := by decide
  have bi : Ieee.double.binade = 4503599627370496 := by decide
  have ir : Ieee.double.infRung = 9218868437227405312 := by decide
  have hm : q * 2 ^ (52 - q.log2) < 9007199254740992 := by
    have : q * 2 ^ (52 - q.log2) < 2 ^ (q.log2 + 1) * 2 ^ (52 - q.log2) := Nat.mul_lt_mul_of_pos_right Nat.lt_log2_self (Nat.two_pow_pos _)
    rw [← Nat.pow_add, show q.log2 + 1 + (52 - q.log2) = 53 from by omega] at this
    exact this
  simp only [f52, lp, bi, ir]
  have e1 : max ((0 : Int) + (q.log2 : Int) - ((52 : Nat) : Int)) (-1074) = (q.log2 : Int) - 52 := by omega
  have e2 : ((0 : Int) - ((q.log2 : Int) - 52)).toNat = 52 - q.log2 := by omega
  have e3 : ((q.log2 : Int) - 52 - 0).toNat = 0 := by omega
  rw [e1, e2, e3, Nat.shiftLeft_eq]
  have hc := cut_exact neg (q * 2 ^ (52 - q.log2)) 0 (by omega)
  rw [Nat.pow_zero, Nat.mul_one] at hc
  rw [hc]
  have e4 : ((q.log2 : Int) - 52 - -1074).toNat = q.log2 + 1022 := by omega
  rw [e4, Nat.min_eq_left (by omega)]
/-- the cut, downwards or upwards -/
theorem cut_way (up neg : Bool) (m d : Nat) : (if up then Ieee.Toward.up else Ieee.Toward.down).cut neg m d = m / 2 ^ d + if (decide (m % 2 ^ d ≠ 0) && (neg != up)) = true then 1 else 0 := by
  unfold Ieee.Toward.cut
  rcases (show d ≤ m.log2 + 2 ∨ m.log2 + 2 < d by omega) with h | h
  · simp only [Nat.min_eq_left h, Nat.shiftLeft_eq, Nat.one_mul]
    cases up <;> cases neg <;> by_cases h2 : m % 2 ^ d = 0 <;> simp [h2]
  · have hlt : m < 2 ^ (m.log2 + 2) := Nat.lt_of_lt_of_le Nat.lt_log2_self (Nat.pow_le_pow_right (by decide) (by omega))
    have hlt2 : m < 2 ^ d := Nat.lt_of_lt_of_le hlt (Nat.pow_le_pow_right (by decide) (by omega))
    simp only [Nat.min_eq_right (Nat.le_of_lt h), Nat.shiftLeft_eq, Nat.one_mul, Nat.div_eq_of_lt hlt, Nat.mod_eq_of_lt hlt, Nat.div_eq_of_lt hlt2, Nat.mod_eq_of_lt hlt2]
    cases up <;> cases neg <;> by_cases h2 : m = 0 <;> simp [h2]
/-- the word of a whole number -/
def intW (s : Bool) (q : Nat) : Nat := (if s then 9223372036854775808 else 0) + (if q = 0 then 0 else (q.log2 + 1022) * 4503599627370496 + q * 2 ^ (52 - q.log2))
theorem read_fin (b : Nat) (hb : b < 18446744073709551616) (h : rung b < 9218868437227405312) : FloatKind.f64.format.read b = .number (isNeg b) (Mo.part b) ((expf b : Int) - 1075) := by
  refine (read_eq b hb).trans ?_
  unfold Mo.part expf
  by_cases h0 : rung b < 4503599627370496
  · rw [if_pos h0, if_pos h0, if_pos h0]; rfl
  · rw [if_neg h0, if_pos h, if_neg h0, if_neg h0]
    congr 1
    omega
theorem whole_small (b : Nat) (up : Bool) (hb : b < 18446744073709551616) (h : rung b < 9218868437227405312) (hx : expf b < 1075) :
    FloatKind.f64.encode ((FloatKind.f64.decode b).integral (if up then Ieee.Toward.up else Ieee.Toward.down)) = intW (isNeg b) (pabs 1 b up) ∧ pabs 1 b up ≤ 4503599627370496 := by
  have hp : Mo.part b < 9007199254740992 := by unfold Mo.part; split <;> omega
  have hq : pabs 1 b up = Mo.part b / 2 ^ (1075 - expf b) + if (decide (Mo.part b % 2 ^ (1075 - expf b) ≠ 0) && (isNeg b != up)) = true then 1 else 0 := by
    have hg : pneg 1 b = isNeg b := by unfold pneg; simp
    unfold pabs sq sl
    rw [if_neg (by omega), hg, decide_eq_true hx]
    simp
  have hle : pabs 1 b up ≤ 4503599627370496 := by
    rw [hq]
    obtain ⟨d, hd⟩ : ∃ d, 1075 - expf b = d + 1 := ⟨1075 - expf b - 1, by omega⟩
    rw [hd]
    have h2 : Mo.part b / 2 ^ (d + 1) ≤ Mo.part b / 2 := by
      rw [Nat.pow_succ, Nat.mul_comm, ← Nat.div_div_eq_div_mul]
      exact Nat.div_le_self _ _
    split <;> omega
  refine ⟨?_, hle⟩
  unfold FloatKind.decode FloatKind.encode
  rw [read_fin b hb h]
  show FloatKind.f64.format.write (.number (isNeg b) ((if up then Ieee.Toward.up else Ieee.Toward.down).cut (isNeg b) (Mo.part b <<< ((expf b : Int) - 1075).toNat) (-((expf b : Int) - 1075)).toNat) 0) = _
  have e1 : ((expf b : Int) - 1075).toNat = 0 := by omega
  have e2 : (-((expf b : Int) - 1075)).toNat = 1075 - expf b := by omega
  rw [e1, e2, Nat.shiftLeft_zero, cut_way, ← hq]
  generalize pabs 1 b up = q at *
  show Ieee.double.nearest (isNeg b) q 0 = _
  unfold intW
  by_cases h0 : q = 0
  · subst h0
    rw [if_pos rfl]
    simp only [Ieee.Format.nearest, if_true]
    rw [word_eq]
    cases isNeg b <;> simp
  · rw [if_neg h0, nearest_int _ q (by omega) (by omega), word_eq]
    cases isNeg b <;> simp
theorem whole_big (b : Nat) (up : Bool) (hb : b < 18446744073709551616) (h : rung b < 9218868437227405312) (hx : 1075 ≤ expf b) :
    FloatKind.f64.encode ((FloatKind.f64.decode b).integral (if up then Ieee.Toward.up else Ieee.Toward.down)) = b := by
  have hr : 4503599627370496 ≤ rung b := by
    unfold expf at hx
    split at hx
    · omega
    · omega
  have hpt : Mo.part b = 4503599627370496 + rung b % 4503599627370496 := by unfold Mo.part; rw [if_neg (by omega)]
  have hex : expf b = rung b / 4503599627370496 := by unfold expf; rw [if_neg (by omega)]
  have hm : rung b % 4503599627370496 < 4503599627370496 := Nat.mod_lt _ (by decide)
  unfold FloatKind.decode FloatKind.encode
  rw [read_fin b hb h]
  show FloatKind.f64.format.write (.number (isNeg b) ((if up then Ieee.Toward.up else Ieee.Toward.down).cut (isNeg b) (Mo.part b <<< ((expf b : Int) - 1075).toNat) (-((expf b : Int) - 1075)).toNat) 0) = _
  have e1 : ((expf b : Int) - 1075).toNat = expf b - 1075 := by omega
  have e2 : (-((expf b : Int) - 1075)).toNat = 0 := by omega
  rw [e1, e2, cut_way, Nat.pow_zero, Nat.div_one, Nat.mod_one, Nat.shiftLeft_eq]
  simp only [ne_eq, not_true_eq_false, decide_false, Bool.false_and, Bool.false_eq_true, if_false, Nat.add_zero]
  show Ieee.double.nearest (isNeg b) (Mo.part b * 2 ^ (expf b - 1075)) 0 = b
  have key := nearest_normal (isNeg b) (Mo.part b) (expf b - 1075) ((expf b - 1075 : Nat) : Int) (by omega) (by omega) (by omega) (by omega)
  rw [Int.sub_self] at key
  rw [key, show ((((expf b - 1075 : Nat) : Int) + 1074).toNat * 4503599627370496 + Mo.part b) = rung b by
    rw [hpt, hex]
    have : (((rung b / 4503599627370496 - 1075 : Nat) : Int) + 1074).toNat = rung b / 4503599627370496 - 1 := by omega
    rw [this]; omega]
  exact word_back b hb
end Go.Proofs.Ytmnpmcfhmhkibaa
