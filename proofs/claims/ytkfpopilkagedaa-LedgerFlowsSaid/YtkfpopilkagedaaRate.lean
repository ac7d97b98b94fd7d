/- Products with a rate (the span's words beside). -/
import Derived.Test.YtkfpopilkagedaaNumV
set_option linter.unusedSimpArgs false
set_option linter.unusedVariables false
namespace Go.Proofs.Ytkfpopilkagedaa
open Go.RowKit Mo
/-- a rate is zero, or above zero and one at most -/
def rateOk (b : Nat) : Bool := decide (b ≤ 4607182418800017408) || decide (b = 9223372036854775808)
def cdiv (N D : Nat) : Nat := N / D + if N % D ≠ 0 then 1 else 0
theorem cdiv_mono {N M D : Nat} (hD : 0 < D) (h : N ≤ M) : cdiv N D ≤ cdiv M D := by
  unfold cdiv
  have h1 := Nat.div_add_mod N D
  have h2 := Nat.div_add_mod M D
  have h3 := Nat.mod_lt N hD
  have h4 := Nat.mod_lt M hD
  have h5 : N / D ≤ M / D := Nat.div_le_div_right h
  generalize N / D = x at *
  generalize M / D = y at *
  generalize N % D = u at *
  generalize M % D = v at *
  rcases (show x = y ∨ x + 1 ≤ y by omega) with rfl | h6
  · have : u ≤ v := by
      generalize D * x = z at *
      omega
    split <;> split <;> omega
  · split <;> split <;> omega
theorem cdiv_le {N D e : Nat} (hD : 0 < D) (h : N ≤ e * D) : cdiv N D ≤ e := by
  have h1 := cdiv_mono hD h
  have h2 : cdiv (e * D) D = e := by unfold cdiv; rw [Nat.mul_div_cancel _ hD, Nat.mul_mod_left]; simp
  omega
theorem cdiv_zero (D : Nat) : cdiv 0 D = 0 := by unfold cdiv; simp
/-- what a rate's word is made of -/
theorem rate_parts (b : Nat) (h : rateOk b = true) : rung b ≤ 4607182418800017408 ∧ expf b ≤ 1023 ∧ Mo.part b ≤ 2 ^ (1075 - expf b) := by
  have hr : rung b ≤ 4607182418800017408 := by unfold rateOk at h; unfold rung; simp at h; omega
  refine ⟨hr, ?_, ?_⟩
  · unfold expf; split
    · decide
    · have : rung b / 4503599627370496 ≤ 4607182418800017408 / 4503599627370496 := Nat.div_le_div_right hr
      omega
  · unfold Mo.part expf
    by_cases h1 : rung b < 4503599627370496
    · rw [if_pos h1, if_pos h1]
      refine Nat.le_trans (Nat.le_of_lt h1) ?_
      obtain ⟨K, hK⟩ : ∃ K, 1075 - 1 = K := ⟨_, rfl⟩
      rw [hK]
      exact Nat.le_trans (show 4503599627370496 ≤ 2 ^ 52 by decide) (Nat.pow_le_pow_right (by decide) (by omega))
    · rw [if_neg h1, if_neg h1]
      rcases (show rung b / 4503599627370496 = 1023 ∨ rung b / 4503599627370496 ≤ 1022 by omega) with h2 | h2
      · rw [h2]
        have h3 : rung b % 4503599627370496 = 0 := by omega
        rw [h3]; decide
      · have h3 : rung b % 4503599627370496 < 4503599627370496 := Nat.mod_lt _ (by decide)
        refine Nat.le_trans (show 4503599627370496 + rung b % 4503599627370496 ≤ 2 ^ 53 by omega) ?_
        exact Nat.pow_le_pow_right (by decide) (by omega)
def driftBy (el : Int) (b : Nat) : Nat := cdiv (el.natAbs * Mo.part b) (2 ^ (1075 - expf b))
theorem drift_le (el : Int) (b : Nat) (h : rateOk b = true) : driftBy el b ≤ el.natAbs := cdiv_le (Nat.two_pow_pos _) (Nat.mul_le_mul_left _ (rate_parts b h).2.2)
theorem drift_mono {el fl : Int} (b : Nat) (h : el.natAbs ≤ fl.natAbs) : driftBy el b ≤ driftBy fl b := cdiv_mono (Nat.two_pow_pos _) (Nat.mul_le_mul_right _ h)
/-- the product's outcome, where the sign asks for the greater one -/
theorem prod_cdiv (n : Int) (b : Nat) (up : Bool) (h : rateOk b = true) (hn : n.natAbs ≤ 1125899906842624) (hs : n = 0 ∨ Mo.part b = 0 ∨ (pneg n b != up) = true) :
    prodE n b up = 0 ∧ prodV n b up = if pneg n b then -(driftBy n b : Int) else (driftBy n b : Int) := by
  obtain ⟨h1, h2, h3⟩ := rate_parts b h
  have hq : pabs n b up = driftBy n b := by
    unfold pabs driftBy sq sl cdiv
    rw [if_neg (by omega)]
    have hx : decide (expf b < 1075) = true := by simp; omega
    rw [hx]
    rcases hs with rfl | hs | hs
    · simp
    · rw [hs]; simp
    · rw [hs]; simp
  have hle := drift_le n b h
  have hE : prodE n b up = 0 := by
    unfold prodE
    rw [if_neg (by omega), if_neg (by omega), hq]
    rw [if_pos]
    unfold pfit
    split <;> simp <;> omega
  refine ⟨hE, ?_⟩
  unfold prodV
  rw [hE, if_pos rfl, hq]
/-- both products of a drift -/
theorem drift_num (el : Int) (b : Nat) (h : rateOk b = true) (h0 : 0 ≤ el) (h1 : el ≤ 1125899906842624) :
    prodE (-el) b false = 0 ∧ prodV (-el) b false = -(driftBy el b : Int) ∧ prodE el b true = 0 ∧ prodV el b true = driftBy el b := by
  have hb : Mo.part b = 0 ∨ isNeg b = false := by
    unfold rateOk at h; simp at h
    rcases h with h | rfl
    · right; unfold isNeg; simp; omega
    · left; decide
  have e0 : driftBy (-el) b = driftBy el b := by unfold driftBy; rw [Int.natAbs_neg]
  have k1 := prod_cdiv (-el) b false h (by omega) (by
    rcases hb with hb | hb
    · exact .inr (.inl hb)
    · rcases (show el = 0 ∨ 0 < el by omega) with rfl | he
      · left; rfl
      · right; right; unfold pneg; rw [hb]; simp; omega)
  have k2 := prod_cdiv el b true h (by omega) (by
    rcases hb with hb | hb
    · exact .inr (.inl hb)
    · right; right; unfold pneg; rw [hb]; simp; omega)
  have z1 : Mo.part b = 0 → driftBy el b = 0 := by intro hz; unfold driftBy; rw [hz, Nat.mul_zero]; exact cdiv_zero _
  refine ⟨k1.1, ?_, k2.1, ?_⟩
  · rw [k1.2, e0]
    rcases hb with hb | hb
    · rw [z1 hb]; simp
    · rcases (show el = 0 ∨ 0 < el by omega) with rfl | he
      · have : driftBy 0 b = 0 := by unfold driftBy; simp [cdiv_zero]
        rw [this]; simp
      · rw [if_pos]; unfold pneg; rw [hb]; simp; omega
  · rw [k2.2]
    rcases hb with hb | hb
    · rw [z1 hb]; simp
    · rw [if_neg]; unfold pneg; rw [hb]; simp; omega
/-- the words that are no rate -/
theorem rate_cls (b : Nat) (hb : b < 18446744073709551616) : (rateOk b = true ∧ 3 ≤ cls b ∧ (FloatKind.f64.format.order b 4607182418800017408 == some Ordering.gt) = false) ∨ (rateOk b = false ∧ cls b < 3) ∨ (rateOk b = false ∧ 3 ≤ cls b ∧ (FloatKind.f64.format.order b 4607182418800017408 == some Ordering.gt) = true) := by
  have e1 : isNaN 4607182418800017408 = false := by decide
  have e2 : ikey 4607182418800017408 = 4607182418800017408 := by decide
  rw [f_gt hb (by decide), e1, e2]
  unfold rateOk cls ikey isNaN isNeg rung
  by_cases h : b < 9223372036854775808
  · have h2 : b % 9223372036854775808 = b := by omega
    rw [h2]
    have h3 : ¬ 9223372036854775808 ≤ b := by omega
    simp only [h3, decide_false, if_false, Bool.false_eq_true]
    rcases (show b ≤ 4607182418800017408 ∨ (4607182418800017408 < b ∧ b ≤ 9218868437227405312) ∨ 9218868437227405312 < b by omega) with g | ⟨g, g'⟩ | g
    · left; simp [g]; (try split) <;> (try omega) <;> (try split) <;> omega
    · right; right; simp; refine ⟨by omega, ?_, by omega, by omega⟩; (try split) <;> (try omega) <;> (try split) <;> (try omega) <;> (try split) <;> omega
    · right; left; simp; refine ⟨by omega, ?_⟩; rw [if_pos (by omega)]; decide
  · have h2 : b % 9223372036854775808 = b - 9223372036854775808 := by omega
    rw [h2]
    have h3 : 9223372036854775808 ≤ b := by omega
    simp only [h3, decide_true, if_true]
    rcases (show b = 9223372036854775808 ∨ 9223372036854775808 < b by omega) with g | g
    · subst g; left; decide
    · right; left; simp; refine ⟨by omega, ?_⟩; (try split) <;> (try omega) <;> (try split) <;> omega
end Go.Proofs.Ytkfpopilkagedaa
