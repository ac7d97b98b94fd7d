/- A float made whole: against 2^63, and as an int64. -/
import Derived.Test.YtmnpmcfhmhkibaaFloatH
set_option linter.unusedSimpArgs false
set_option linter.unusedVariables false
namespace Go.Proofs.Ytmnpmcfhmhkibaa
open Go.RowKit Mo
theorem cut_zero (neg : Bool) (m d : Nat) (hd : d ≤ m.log2 + 2) : Ieee.Toward.zero.cut neg m d = m / 2 ^ d := by
  unfold Ieee.Toward.cut
  simp only [Nat.min_eq_left hd, Nat.shiftLeft_eq, Nat.one_mul]
  simp
theorem to_int_of (b : Nat) (V : Int) (h : (FloatKind.f64.decode b).toInt .zero = some V) (h1 : -9223372036854775808 ≤ V) (h2 : V ≤ 9223372036854775807) : floatToIntVal .f64 b .i64 = some V := by
  unfold floatToIntVal
  rw [h]
  have g1 : IntKind.i64.min = -9223372036854775808 := by decide
  have g2 : IntKind.i64.max = 9223372036854775807 := by decide
  simp only [g1, g2]
  rw [if_pos]
  first | exact ⟨h1, h2⟩ | omega | (simp; omega)
theorem intW_parts (s : Bool) (q : Nat) (h : q ≤ 4503599627370496) : rung (intW s q) = (if q = 0 then 0 else (q.log2 + 1022) * 4503599627370496 + q * 2 ^ (52 - q.log2)) ∧ isNeg (intW s q) = s ∧ intW s q < 18446744073709551616 ∧ rung (intW s q) ≤ 4841369599423283200 ∧ (0 < q → q.log2 ≤ 52 ∧ 4503599627370496 ≤ q * 2 ^ (52 - q.log2) ∧ q * 2 ^ (52 - q.log2) < 9007199254740992) := by
  have hM : 0 < q → q.log2 ≤ 52 ∧ 4503599627370496 ≤ q * 2 ^ (52 - q.log2) ∧ q * 2 ^ (52 - q.log2) < 9007199254740992 ∧ (q.log2 = 52 → q * 2 ^ (52 - q.log2) = 4503599627370496) := by
    intro h0
    have hne : q ≠ 0 := by omega
    have hl : q.log2 ≤ 52 := by
      have := (Nat.log2_lt hne (k := 53)).2 (by omega)
      omega
    have ha := Nat.log2_self_le hne
    have e52 : (4503599627370496 : Nat) = 2 ^ q.log2 * 2 ^ (52 - q.log2) := by rw [← Nat.pow_add, show q.log2 + (52 - q.log2) = 52 by omega]
    refine ⟨hl, ?_, ?_, ?_⟩
    · rw [e52]; exact Nat.mul_le_mul_right _ ha
    · have : q * 2 ^ (52 - q.log2) < 2 ^ (q.log2 + 1) * 2 ^ (52 - q.log2) := Nat.mul_lt_mul_of_pos_right Nat.lt_log2_self (Nat.two_pow_pos _)
      rw [← Nat.pow_add, show q.log2 + 1 + (52 - q.log2) = 53 from by omega] at this
      exact this
    · intro h52
      rw [h52] at ha ⊢
      simp only [Nat.reducePow] at ha
      simp; omega
  obtain ⟨R, hR⟩ : ∃ R, (if q = 0 then 0 else (q.log2 + 1022) * 4503599627370496 + q * 2 ^ (52 - q.log2)) = R := ⟨_, rfl⟩
  have hRle : R ≤ 4841369599423283200 := by
    rw [← hR]
    split
    · omega
    · obtain ⟨g1, g2, g3, g4⟩ := hM (by omega)
      generalize q * 2 ^ (52 - q.log2) = M at *
      rcases (show q.log2 = 52 ∨ q.log2 ≤ 51 by omega) with g | g
      · have := g4 g; omega
      · omega
  have hw : intW s q = (if s then 9223372036854775808 else 0) + R := by unfold intW; rw [hR]
  rw [hw, hR]
  have hr : rung ((if s then 9223372036854775808 else 0) + R) = R := by unfold rung; cases s <;> simp <;> omega
  refine ⟨hr, ?_, ?_, by rw [hr]; exact hRle, fun h0 => ⟨(hM h0).1, (hM h0).2.1, (hM h0).2.2.1⟩⟩
  · unfold isNeg; cases s <;> simp <;> omega
  · cases s <;> simp <;> omega
theorem intW_to (s : Bool) (q : Nat) (h : q ≤ 4503599627370496) : floatToIntVal .f64 (intW s q) .i64 = some (if s then -(q : Int) else q) := by
  obtain ⟨h1, h2, h3, h4, h5⟩ := intW_parts s q h
  refine to_int_of _ _ ?_ (by split <;> omega) (by split <;> omega)
  unfold FloatKind.decode
  rw [read_fin _ h3 (by omega), h2]
  by_cases h0 : q = 0
  · subst h0
    rw [if_pos rfl] at h1
    have e1 : Mo.part (intW s 0) = 0 := by unfold Mo.part; rw [h1]; rfl
    have e2 : expf (intW s 0) = 1 := by unfold expf; rw [h1]; rfl
    rw [e1, e2]
    cases s <;> decide
  · obtain ⟨g1, g2, g3⟩ := h5 (by omega)
    rw [if_neg h0] at h1
    have hdiv : q * 2 ^ (52 - q.log2) / 2 ^ (52 - q.log2) = q := Nat.mul_div_cancel _ (Nat.two_pow_pos _)
    have hlog : 52 ≤ (q * 2 ^ (52 - q.log2)).log2 := (Nat.le_log2 (by omega)).2 g2
    have e1 : Mo.part (intW s q) = q * 2 ^ (52 - q.log2) := by
      unfold Mo.part; rw [h1]
      generalize q * 2 ^ (52 - q.log2) = M at *
      rw [if_neg (by omega)]; omega
    have e2 : expf (intW s q) = q.log2 + 1023 := by
      unfold expf; rw [h1]
      generalize q * 2 ^ (52 - q.log2) = M at *
      rw [if_neg (by omega)]; omega
    rw [e1, e2]
    show some (Ieee.signed s (Ieee.Toward.zero.cut s ((q * 2 ^ (52 - q.log2)) <<< (((q.log2 + 1023 : Nat) : Int) - 1075).toNat) (-(((q.log2 + 1023 : Nat) : Int) - 1075)).toNat) 0) = _
    have e3 : (((q.log2 + 1023 : Nat) : Int) - 1075).toNat = 0 := by omega
    have e4 : (-(((q.log2 + 1023 : Nat) : Int) - 1075)).toNat = 52 - q.log2 := by omega
    rw [e3, e4, Nat.shiftLeft_zero, cut_zero _ _ _ (by omega), hdiv]
    simp [Ieee.signed]
theorem big_to (b : Nat) (hb : b < 18446744073709551616) (h : rung b < 9218868437227405312) (hx : 1075 ≤ expf b) (V : Int) (hV : V = (if isNeg b then -((Mo.part b * 2 ^ (expf b - 1075) : Nat) : Int) else (Mo.part b * 2 ^ (expf b - 1075) : Nat))) (h1 : -9223372036854775808 ≤ V) (h2 : V ≤ 9223372036854775807) : floatToIntVal .f64 b .i64 = some V := by
  refine to_int_of _ _ ?_ h1 h2
  unfold FloatKind.decode
  rw [read_fin b hb h]
  show some (Ieee.signed (isNeg b) (Ieee.Toward.zero.cut (isNeg b) (Mo.part b <<< ((expf b : Int) - 1075).toNat) (-((expf b : Int) - 1075)).toNat) 0) = _
  have e1 : ((expf b : Int) - 1075).toNat = expf b - 1075 := by omega
  have e2 : (-((expf b : Int) - 1075)).toNat = 0 := by omega
  rw [e1, e2, cut_zero _ _ _ (by omega), Nat.pow_zero, Nat.div_one, Nat.shiftLeft_eq, hV]
  simp [Ieee.signed]
theorem big_fit (b : Nat) (h : rung b < 9218868437227405312) (hx : 1075 ≤ expf b) : (rung b < 4890909195324358656 ↔ Mo.part b * 2 ^ (expf b - 1075) < 9223372036854775808) ∧ (rung b ≤ 4890909195324358656 ↔ Mo.part b * 2 ^ (expf b - 1075) ≤ 9223372036854775808) := by
  have hr : 4503599627370496 ≤ rung b := by unfold expf at hx; split at hx <;> omega
  have hpt : Mo.part b = 4503599627370496 + rung b % 4503599627370496 := by unfold Mo.part; rw [if_neg (by omega)]
  have hex : expf b = rung b / 4503599627370496 := by unfold expf; rw [if_neg (by omega)]
  have hm : rung b % 4503599627370496 < 4503599627370496 := Nat.mod_lt _ (by decide)
  rw [hpt, hex]
  rw [hex] at hx
  generalize hX : rung b / 4503599627370496 = X at *
  generalize hY : rung b % 4503599627370496 = Y at *
  have hb2 : rung b = X * 4503599627370496 + Y := by omega
  rw [hb2]
  rcases (show X ≤ 1085 ∨ X = 1086 ∨ 1087 ≤ X by omega) with g | g | g
  · have h3 : (4503599627370496 + Y) * 2 ^ (X - 1075) < 9223372036854775808 := by
      have h4 : 2 ^ (X - 1075) ≤ 2 ^ 10 := Nat.pow_le_pow_right (by decide) (by omega)
      have h5 : (4503599627370496 + Y) * 2 ^ (X - 1075) ≤ (4503599627370496 + Y) * 2 ^ 10 := Nat.mul_le_mul_left _ h4
      omega
    generalize (4503599627370496 + Y) * 2 ^ (X - 1075) = Z at *
    omega
  · subst g
    simp only [show (1086 - 1075 : Nat) = 11 from rfl, Nat.reducePow]
    omega
  · have h3 : 9223372036854775808 < (4503599627370496 + Y) * 2 ^ (X - 1075) := by
      have h4 : 2 ^ 12 ≤ 2 ^ (X - 1075) := Nat.pow_le_pow_right (by decide) (by omega)
      have h5 : (4503599627370496 + Y) * 2 ^ 12 ≤ (4503599627370496 + Y) * 2 ^ (X - 1075) := Nat.mul_le_mul_left _ h4
      omega
    generalize (4503599627370496 + Y) * 2 ^ (X - 1075) = Z at *
    omega
end Go.Proofs.Ytmnpmcfhmhkibaa
