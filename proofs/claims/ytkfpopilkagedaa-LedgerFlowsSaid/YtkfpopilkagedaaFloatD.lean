/- A number of 128 bits without its lowest ones, in plain numbers. -/
import Derived.Test.YtkfpopilkagedaaFloatC
set_option linter.unusedSimpArgs false
set_option linter.unusedVariables false
namespace Go.Proofs.Ytkfpopilkagedaa
open Go.RowKit Mo
/-- what is left of P without its lowest k bits, whether one of these was set, whether that has 64 bits -/
def DownIs (P k : Nat) (q : Int) (r f : Bool) : Prop :=
  0 ≤ q ∧ q < 18446744073709551616 ∧ f = decide (P / 2 ^ k < 18446744073709551616) ∧ (f = true → q = (P / 2 ^ k : Nat) ∧ r = decide (P % 2 ^ k ≠ 0))
theorem p64 {k : Nat} (h : 64 ≤ k) : 2 ^ k = 18446744073709551616 * 2 ^ (k - 64) := by
  have e : (18446744073709551616 : Nat) = 2 ^ 64 := by decide
  rw [e, ← Nat.pow_add, show 64 + (k - 64) = k by omega]
theorem p64' {k : Nat} (h : k ≤ 64) : 18446744073709551616 = 2 ^ k * 2 ^ (64 - k) := by
  have e : (18446744073709551616 : Nat) = 2 ^ 64 := by decide
  rw [e, ← Nat.pow_add, show k + (64 - k) = 64 by omega]
theorem low_zero (x k : Nat) (h : k ≤ 64) : x * 2 ^ (64 - k) % 18446744073709551616 = x % 2 ^ k * 2 ^ (64 - k) := by
  rw [p64' h, Nat.mul_mod_mul_right]
theorem down_all (P k : Nat) (hP : P < 1329227995784915872903807060280344576) (h0 : 0 < P) (hk : 128 ≤ k) : DownIs P k 0 true true := by
  have h : P < 2 ^ k := Nat.lt_of_lt_of_le hP (Nat.le_trans (show 1329227995784915872903807060280344576 ≤ 2 ^ 128 by decide) (Nat.pow_le_pow_right (by decide) hk))
  unfold DownIs
  rw [Nat.div_eq_of_lt h, Nat.mod_eq_of_lt h]
  refine ⟨by decide, by decide, by decide, fun _ => ⟨rfl, ?_⟩⟩
  simp; omega
theorem down_over (P k : Nat) (hP : P < 1329227995784915872903807060280344576) (hk : 64 ≤ k) (hk2 : k < 128) (r : Bool)
    (hr : r = true ↔ (P / 18446744073709551616 % 2 ^ (k - 64) ≠ 0 ∨ P % 18446744073709551616 ≠ 0)) :
    DownIs P k (P / 18446744073709551616 / 2 ^ (k - 64) : Nat) r true := by
  have e : P / 18446744073709551616 / 2 ^ (k - 64) = P / 2 ^ k := by rw [Nat.div_div_eq_div_mul, ← p64 hk]
  have hm : P % 2 ^ k = P % 18446744073709551616 + 18446744073709551616 * (P / 18446744073709551616 % 2 ^ (k - 64)) := by rw [p64 hk, Nat.mod_mul]
  have hq : P / 2 ^ k < 18446744073709551616 := by
    rw [← e]; exact Nat.lt_of_le_of_lt (Nat.div_le_self _ _) (by omega)
  unfold DownIs
  rw [e]
  generalize P / 2 ^ k = q at *
  refine ⟨by omega, by omega, by simpa using hq, fun _ => ⟨rfl, ?_⟩⟩
  rw [Bool.eq_iff_iff, hr, hm]
  generalize P / 18446744073709551616 % 2 ^ (k - 64) = x
  generalize P % 18446744073709551616 = y
  simp; omega
theorem down_under (P k : Nat) (hP : P < 1329227995784915872903807060280344576) (hk : k < 64) (q : Int) (r f : Bool)
    (hq : q = bits .or .u64 (P % 18446744073709551616 / 2 ^ k : Nat) (P / 18446744073709551616 * 2 ^ (64 - k) % 18446744073709551616 : Nat))
    (hr : r = true ↔ P % 18446744073709551616 * 2 ^ (64 - k) % 18446744073709551616 ≠ 0) (hf : f = true ↔ P / 18446744073709551616 / 2 ^ k = 0) : DownIs P k q r f := by
  have hT := p64' (Nat.le_of_lt hk)
  have hk0 : 0 < 2 ^ k := Nat.two_pow_pos _
  have ha : P % 18446744073709551616 / 2 ^ k < 2 ^ (64 - k) := by
    rw [Nat.div_lt_iff_lt_mul hk0, Nat.mul_comm, ← hT]; omega
  have ha2 : P % 18446744073709551616 / 2 ^ k < 18446744073709551616 := Nat.lt_of_le_of_lt (Nat.div_le_self _ _) (by omega)
  have hb2 : P / 18446744073709551616 * 2 ^ (64 - k) % 18446744073709551616 < 18446744073709551616 := by omega
  rw [u64_or_nat _ _ ha2 hb2, low_zero _ _ (Nat.le_of_lt hk), Nat.or_comm, nat_join (64 - k) _ _ (Nat.mul_mod_left _ _) ha] at hq
  have hb3 : P / 18446744073709551616 % 2 ^ k * 2 ^ (64 - k) + P % 18446744073709551616 / 2 ^ k < 18446744073709551616 := by
    have h1 : P / 18446744073709551616 % 2 ^ k < 2 ^ k := Nat.mod_lt _ hk0
    have h2 : P / 18446744073709551616 % 2 ^ k * 2 ^ (64 - k) + 2 ^ (64 - k) ≤ 2 ^ k * 2 ^ (64 - k) := by
      rw [← Nat.succ_mul]; exact Nat.mul_le_mul_right _ h1
    rw [← hT] at h2; omega
  have e : P / 2 ^ k = P / 18446744073709551616 * 2 ^ (64 - k) + P % 18446744073709551616 / 2 ^ k := by
    have h : P = P % 18446744073709551616 + 2 ^ k * (2 ^ (64 - k) * (P / 18446744073709551616)) := by
      rw [← Nat.mul_assoc, ← hT]; omega
    conv => lhs; rw [h]
    rw [Nat.add_mul_div_left _ _ hk0, Nat.mul_comm (2 ^ (64 - k)), Nat.add_comm]
  have hm : P % 2 ^ k = P % 18446744073709551616 % 2 ^ k := by
    have h : P = P % 18446744073709551616 + 2 ^ k * (2 ^ (64 - k) * (P / 18446744073709551616)) := by
      rw [← Nat.mul_assoc, ← hT]; omega
    conv => lhs; rw [h]
    rw [Nat.add_mul_mod_self_left]
  have hfe : f = decide (P / 2 ^ k < 18446744073709551616) := by
    rw [Bool.eq_iff_iff, hf, e]
    constructor
    · intro h
      have : P / 18446744073709551616 < 2 ^ k := by
        rcases Nat.lt_or_ge (P / 18446744073709551616) (2 ^ k) with h9 | h9
        · exact h9
        · have := Nat.div_pos h9 hk0; omega
      rw [Nat.mod_eq_of_lt this] at hb3
      exact decide_eq_true hb3
    · intro h
      have h := of_decide_eq_true h
      refine Nat.div_eq_of_lt ?_
      rcases Nat.lt_or_ge (P / 18446744073709551616) (2 ^ k) with h9 | h9
      · exact h9
      · have := Nat.mul_le_mul_right (2 ^ (64 - k)) h9
        rw [← hT] at this
        exact absurd (Nat.lt_of_le_of_lt (Nat.le_trans this (Nat.le_add_right _ _)) h) (Nat.lt_irrefl _)
  unfold DownIs
  refine ⟨by rw [hq]; exact Int.natCast_nonneg _, by rw [hq]; exact Int.ofNat_lt.2 hb3, hfe, fun h => ⟨?_, ?_⟩⟩
  · have h1 : P / 18446744073709551616 < 2 ^ k := by
      have h := hf.1 h
      rcases Nat.lt_or_ge (P / 18446744073709551616) (2 ^ k) with h9 | h9
      · exact h9
      · have := Nat.div_pos h9 hk0; omega
    rw [hq, e, Nat.mod_eq_of_lt h1]
  · rw [Bool.eq_iff_iff, hr, hm, low_zero _ _ (Nat.le_of_lt hk)]
    have : 0 < 2 ^ (64 - k) := Nat.two_pow_pos _
    generalize P % 18446744073709551616 % 2 ^ k = x
    generalize 2 ^ (64 - k) = y at this ⊢
    rw [decide_eq_true_iff]
    exact ⟨fun h e => h (by rw [e, Nat.zero_mul]), fun h => Nat.mul_ne_zero h (by omega)⟩
end Go.Proofs.Ytkfpopilkagedaa
