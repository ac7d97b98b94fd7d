/- Floats held against each other, as whole numbers; their classes. -/
import Derived.Test.YtkfpopilkagedaaFloat
set_option linter.unusedSimpArgs false
set_option linter.unusedVariables false
open Go
namespace Mo
theorem f_none {x y : Nat} (hx : x < 18446744073709551616) (hy : y < 18446744073709551616) (h : isNaN x = true ∨ isNaN y = true) : FloatKind.f64.format.order x y = none := by
  rcases h with h | h
  · exact order_nan_left x y hx h
  · exact order_nan_right x y hy h
theorem f_some {x y : Nat} (hx : x < 18446744073709551616) (hy : y < 18446744073709551616) (h : isNaN x = false) (h2 : isNaN y = false) : FloatKind.f64.format.order x y = some (compare (ikey x) (ikey y)) := order_eq x y hx hy h h2
theorem f_gt {x y : Nat} (hx : x < 18446744073709551616) (hy : y < 18446744073709551616) : (FloatKind.f64.format.order x y == some Ordering.gt) = (!isNaN x && !isNaN y && decide (ikey y < ikey x)) := by
  cases h : isNaN x
  · cases h2 : isNaN y
    · rw [f_some hx hy h h2, Bool.eq_iff_iff]; simp [cmp_gt_iff]
    · rw [f_none hx hy (.inr h2)]; rfl
  · rw [f_none hx hy (.inl h)]; rfl
theorem f_lt {x y : Nat} (hx : x < 18446744073709551616) (hy : y < 18446744073709551616) : (FloatKind.f64.format.order x y == some Ordering.lt) = (!isNaN x && !isNaN y && decide (ikey x < ikey y)) := by
  cases h : isNaN x
  · cases h2 : isNaN y
    · rw [f_some hx hy h h2, Bool.eq_iff_iff]; simp [cmp_lt_iff]
    · rw [f_none hx hy (.inr h2)]; rfl
  · rw [f_none hx hy (.inl h)]; rfl
theorem f_eq {x y : Nat} (hx : x < 18446744073709551616) (hy : y < 18446744073709551616) : (FloatKind.f64.format.order x y == some Ordering.eq) = (!isNaN x && !isNaN y && decide (ikey x = ikey y)) := by
  cases h : isNaN x
  · cases h2 : isNaN y
    · rw [f_some hx hy h h2, Bool.eq_iff_iff]; simp [cmp_eq_iff]
    · rw [f_none hx hy (.inr h2)]; rfl
  · rw [f_none hx hy (.inl h)]; rfl
theorem f_ne_self {x : Nat} (hx : x < 18446744073709551616) : (FloatKind.f64.format.order x x != some Ordering.eq) = isNaN x := by
  have h := f_eq hx hx
  rw [bne, h]
  cases isNaN x <;> simp
theorem f_le {x y : Nat} (hx : x < 18446744073709551616) (hy : y < 18446744073709551616) : (FloatKind.f64.format.order x y == some Ordering.lt || FloatKind.f64.format.order x y == some Ordering.eq) = (!isNaN x && !isNaN y && decide (ikey x ≤ ikey y)) := by
  rw [f_lt hx hy, f_eq hx hy, Bool.eq_iff_iff]
  cases isNaN x <;> cases isNaN y <;> simp <;> omega
theorem f_ge {x y : Nat} (hx : x < 18446744073709551616) (hy : y < 18446744073709551616) : (FloatKind.f64.format.order x y == some Ordering.gt || FloatKind.f64.format.order x y == some Ordering.eq) = (!isNaN x && !isNaN y && decide (ikey y ≤ ikey x)) := by
  rw [f_gt hx hy, f_eq hx hy, Bool.eq_iff_iff]
  cases isNaN x <;> cases isNaN y <;> simp <;> omega

/-- the sign turned -/
def fneg (b : Nat) : Nat := if 9223372036854775808 ≤ b then b - 9223372036854775808 else b + 9223372036854775808
theorem xor_sign (b : Nat) (hb : b < 18446744073709551616) : b ^^^ 9223372036854775808 = fneg b := by
  have h1 : (b ^^^ 2 ^ 63) % 2 ^ 63 = b % 2 ^ 63 := by rw [Nat.xor_mod_two_pow]; simp
  have h2 : (b ^^^ 2 ^ 63) / 2 ^ 63 = (b / 2 ^ 63) ^^^ 1 := by rw [Nat.xor_div_two_pow]
  have e : (2 : Nat) ^ 63 = 9223372036854775808 := by decide
  rw [e] at h1 h2
  have h3 : b / 9223372036854775808 = 0 ∨ b / 9223372036854775808 = 1 := by omega
  unfold fneg
  rcases h3 with h | h
  · rw [h] at h2
    simp at h2
    rw [if_neg (by omega)]; omega
  · rw [h] at h2
    simp at h2
    rw [if_pos (by omega)]; omega
theorem fneg_lt {b : Nat} (hb : b < 18446744073709551616) : fneg b < 18446744073709551616 := by unfold fneg; split <;> omega
theorem rung_fneg {b : Nat} (hb : b < 18446744073709551616) : rung (fneg b) = rung b := by unfold fneg rung; split <;> omega
theorem isNeg_fneg {b : Nat} (hb : b < 18446744073709551616) : isNeg (fneg b) = !isNeg b := by
  unfold fneg isNeg
  by_cases h : 9223372036854775808 ≤ b
  · rw [if_pos h, decide_eq_true h]; simp; omega
  · rw [if_neg h, decide_eq_false h]; simp
theorem isNaN_fneg {b : Nat} (hb : b < 18446744073709551616) : isNaN (fneg b) = isNaN b := by unfold isNaN; rw [rung_fneg hb]
theorem ikey_fneg {b : Nat} (hb : b < 18446744073709551616) : ikey (fneg b) = -ikey b := by
  unfold ikey; rw [rung_fneg hb, isNeg_fneg hb]; cases isNeg b <;> simp
theorem word_of (b : Nat) (hb : b < 18446744073709551616) : b = (if isNeg b then 9223372036854775808 else 0) + rung b := by
  unfold isNeg rung
  by_cases h : 9223372036854775808 ≤ b
  · simp [h]; omega
  · simp [h]; omega

/-- what a float is -/
def cls (b : Nat) : Int :=
  if isNaN b then 0 else if rung b = 0 then (if isNeg b then 3 else 4) else if rung b = 9218868437227405312 then (if isNeg b then 1 else 6) else if isNeg b then 2 else 5
end Mo
