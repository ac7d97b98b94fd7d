/- Contracts of the num package's functions: Key, Cmp. -/
import Derived.Test.YtkfpopilkagedaaNumV
set_option linter.unusedSimpArgs false
set_option linter.unusedVariables false
namespace Go.Proofs.Ytkfpopilkagedaa
open Go.RowKit Mo
def keyN (b : Nat) : Nat := if isNaN b then 0 else if isNeg b then 18446744073709551615 - b else b + 9223372036854775808
theorem key_lt (b : Nat) (hb : b < 18446744073709551616) : keyN b < 18446744073709551616 := by
  unfold keyN isNeg
  split
  · decide
  · split
    · omega
    · rename_i h; simp at h; omega
theorem xor_all (b : Nat) (hb : b < 18446744073709551616) : bits .xor .u64 IntKind.u64.max (b : Int) = (18446744073709551615 - b : Nat) := by
  rw [show IntKind.u64.max = ((18446744073709551615 : Nat) : Int) from by decide, u64_xor_nat _ _ (by decide) hb]
  refine congrArg Int.ofNat (Nat.eq_of_testBit_eq fun i => ?_)
  rw [Nat.testBit_xor, show (18446744073709551615 : Nat) = 2 ^ 64 - 1 from rfl, Nat.testBit_two_pow_sub_one,
    show 2 ^ 64 - 1 - b = 2 ^ 64 - (b + 1) from by omega, Nat.testBit_two_pow_sub_succ (by omega)]
  by_cases h : i < 64
  · simp [h]
  · have : b.testBit i = false := Nat.testBit_lt_two_pow (Nat.lt_of_lt_of_le hb (Nat.pow_le_pow_right (n := 2) (by decide) (show 64 ≤ i by omega)))
    simp [h, this]
theorem or_top (b : Nat) (hb : b < 9223372036854775808) : bits .or .u64 (b : Int) 9223372036854775808 = (b + 9223372036854775808 : Nat) := by
  rw [show (9223372036854775808 : Int) = ((9223372036854775808 : Nat) : Int) from rfl, u64_or_nat _ _ (by omega) (by decide)]
  refine congrArg Int.ofNat ?_
  have := join63 1 b hb
  rw [Nat.one_mul] at this
  rw [Nat.or_comm, this, Nat.add_comm]
theorem top_bit (b : Nat) (hb : b < 18446744073709551616) : ((b : Int) / 9223372036854775808 == 1) = isNeg b := by
  unfold isNeg
  rw [Bool.eq_iff_iff, beq_iff_eq, decide_eq_true_iff]
  omega
set_option maxHeartbeats 400000 in
theorem key_any (b : Nat) (w : World) (hb : b < 18446744073709551616) : Calls Try.prog 39 #[.float .f64 b] w fun e w' => e = .returned (.int .u64 (keyN b : Nat)) ∧ w = w' := by
  have e0 := f_ne_self hb
  have e1 := top_bit b hb
  have hr := run_bits
  unfold keyN
  rcases (show isNaN b = true ∨ (isNaN b = false ∧ isNeg b = true) ∨ (isNaN b = false ∧ isNeg b = false) by cases isNaN b <;> cases isNeg b <;> simp) with h | ⟨h, k⟩ | ⟨h, k⟩
  · rw [h] at e0 ⊢
    go_enter Try.func39, Try.ntmps39
    go_wp2
    go_ret
    exact ⟨rfl, rfl⟩
  · rw [h] at e0 ⊢
    rw [k] at e1 ⊢
    have e2 := Lib.hid (xor_all b hb)
    clear h k
    go_enter Try.func39, Try.ntmps39
    go_wp2
    go_ret
    exact ⟨ret_u64 e2.out, rfl⟩
  · rw [h] at e0 ⊢
    rw [k] at e1 ⊢
    have k1 : b < 9223372036854775808 := by unfold isNeg at k; simpa using k
    have e2 := Lib.hid (or_top b k1)
    clear h k k1
    go_enter Try.func39, Try.ntmps39
    go_wp2
    go_ret
    exact ⟨ret_u64 e2.out, rfl⟩
def cmpN (a b : Nat) : Int := if keyN a < keyN b then -1 else if keyN b < keyN a then 1 else 0
set_option maxHeartbeats 400000 in
theorem cmp_any (a b : Nat) (w : World) (ha : a < 18446744073709551616) (hb : b < 18446744073709551616) : Calls Try.prog 31 #[.float .f64 a, .float .f64 b] w fun e w' => e = .returned (.int .i64 (cmpN a b)) ∧ w = w' := by
  unfold cmpN
  have k1 := key_lt a ha; have k2 := key_lt b hb
  obtain ⟨x, hx⟩ : ∃ x, keyN a = x := ⟨_, rfl⟩
  obtain ⟨y, hy⟩ : ∃ y, keyN b = y := ⟨_, rfl⟩
  rw [hx] at k1 ⊢; rw [hy] at k2 ⊢
  have HX := Lib.hid hx; have HY := Lib.hid hy; clear hx hy
  rcases (show x < y ∨ y < x ∨ x = y by omega) with h | h | rfl
  · rw [if_pos h]
    have d1 : decide (x < y) = true := by simp; omega
    clear h
    go_enter Try.func31, Try.ntmps31
    go_wp2_with (first | (go_at_call 39; (have := HB0; clear this); refine (key_any _ _ hb).mono ?_; rintro e w1 ⟨rfl, rfl⟩; rw [HY.out]) | (go_at_call 39; refine (key_any _ _ ha).mono ?_; rintro e w1 ⟨rfl, rfl⟩; rw [HX.out]; have HB0 := trivial))
    go_ret
    exact ⟨rfl, rfl⟩
  · rw [if_neg (by omega), if_pos h]
    have d1 : decide (x < y) = false := by simp; omega
    have d2 : decide (y < x) = true := by simp; omega
    clear h
    go_enter Try.func31, Try.ntmps31
    go_wp2_with (first | (go_at_call 39; (have := HB0; clear this); refine (key_any _ _ hb).mono ?_; rintro e w1 ⟨rfl, rfl⟩; rw [HY.out]) | (go_at_call 39; refine (key_any _ _ ha).mono ?_; rintro e w1 ⟨rfl, rfl⟩; rw [HX.out]; have HB0 := trivial))
    go_ret
    exact ⟨rfl, rfl⟩
  · rw [if_neg (by omega), if_neg (by omega)]
    have d1 : decide (x < x) = false := by simp
    go_enter Try.func31, Try.ntmps31
    go_wp2_with (first | (go_at_call 39; (have := HB0; clear this); refine (key_any _ _ hb).mono ?_; rintro e w1 ⟨rfl, rfl⟩; rw [HY.out]) | (go_at_call 39; refine (key_any _ _ ha).mono ?_; rintro e w1 ⟨rfl, rfl⟩; rw [HX.out]; have HB0 := trivial))
    go_ret
    exact ⟨rfl, rfl⟩
end Go.Proofs.Ytkfpopilkagedaa
