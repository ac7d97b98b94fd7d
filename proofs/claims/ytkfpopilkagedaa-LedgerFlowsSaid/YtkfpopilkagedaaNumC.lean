/- Contracts of the num package's functions: the lowest bits taken off. -/
import Derived.Test.YtkfpopilkagedaaNumT
import Derived.Test.YtkfpopilkagedaaFloatD
set_option linter.unusedSimpArgs false
set_option linter.unusedVariables false
namespace Go.Proofs.Ytkfpopilkagedaa
open Go.RowKit Mo
theorem shift_up (x : Int) (j : Nat) (y : Nat) (h : x = y) : IntKind.u64.wrap (x * 2 ^ j) = (y * 2 ^ j % 18446744073709551616 : Nat) := by
  rw [wrap_u64, h, show ((2 : Int) ^ j) = ((2 ^ j : Nat) : Int) from (Int.natCast_pow 2 j).symm, ← Int.natCast_mul]
  exact (Int.natCast_emod _ _).symm
theorem shift_down (x : Int) (j : Nat) (y : Nat) (h : x = y) : x / 2 ^ j = (y / 2 ^ j : Nat) := by
  rw [h, show ((2 : Int) ^ j) = ((2 ^ j : Nat) : Int) from (Int.natCast_pow 2 j).symm]
  exact (Int.natCast_ediv _ _).symm
theorem nat_zero {n : Nat} : (n : Int) = 0 ↔ n = 0 := by omega
theorem nat_zero' {n : Nat} : (n : Int) ≠ 0 ↔ n ≠ 0 := by omega
set_option maxRecDepth 100000 in
set_option maxHeartbeats 400000 in
theorem down_any (P k : Nat) (hP : P < 1329227995784915872903807060280344576) (hP0 : 0 < P) (hk0 : 0 < k) (hk : k < 2000) (hi lo by_ : Int) (w : World)
    (e1 : hi = (P / 18446744073709551616 : Nat)) (e2 : lo = (P % 18446744073709551616 : Nat)) (e3 : by_ = k) :
    Calls Try.prog 46 #[.int .u64 hi, .int .u64 lo, .int .u64 by_] w fun e w' => ∃ q r f, e = .returned (.tuple #[.int .u64 q, .bool r, .bool f]) ∧ w = w' ∧ DownIs P k q r f := by
  have a0 : 0 ≤ hi := by omega
  have a1 : hi < 18446744073709551616 := by omega
  have b0 : 0 ≤ lo := by omega
  have b1 : lo < 18446744073709551616 := by omega
  have c0 : 0 < by_ := by omega
  have c1 : by_ < 2000 := by omega
  have E1 := Lib.hid e1; have E2 := Lib.hid e2; have E3 := Lib.hid e3
  have HP := Lib.hid hP; have HP0 := Lib.hid hP0
  clear e1 e2 e3 hP hP0
  rcases (show 128 ≤ by_ ∨ (64 < by_ ∧ by_ < 128) ∨ by_ = 64 ∨ by_ < 64 by omega) with h | ⟨h, h'⟩ | rfl | h
  · go_enter Try.func46, Try.ntmps46
    go_wp2
    go_ret3
    refine ⟨_, _, _, rfl, rfl, ?_⟩
    exact down_all P k HP.out HP0.out (by have := E3.out; omega)
  · go_enter Try.func46, Try.ntmps46
    go_wp2
    all_goals go_ret3
    all_goals refine ⟨_, _, _, rfl, rfl, ?_⟩
    · have hz : IntKind.u64.wrap (hi * 2 ^ (128 - by_).toNat) = 0 := by assumption
      have hk1 := E3.out
      rw [shift_up _ _ _ E1.out, show (128 - by_).toNat = 64 - (k - 64) by omega, low_zero _ _ (by omega)] at hz
      rw [shift_down _ _ _ E1.out, show (by_ - 64).toNat = k - 64 by omega]
      refine down_over P k HP.out (by omega) (by omega) _ ?_
      rw [E2.out]
      have hz2 : P / 18446744073709551616 % 2 ^ (k - 64) = 0 := by
        have hz3 : P / 18446744073709551616 % 2 ^ (k - 64) * 2 ^ (64 - (k - 64)) = 0 := nat_zero.1 hz
        rcases Nat.mul_eq_zero.1 hz3 with e | e
        · exact e
        · have := Nat.two_pow_pos (64 - (k - 64)); omega
      rw [hz2]; simp; omega
    · have hz : ¬ IntKind.u64.wrap (hi * 2 ^ (128 - by_).toNat) = 0 := by assumption
      have hk1 := E3.out
      rw [shift_up _ _ _ E1.out, show (128 - by_).toNat = 64 - (k - 64) by omega, low_zero _ _ (by omega)] at hz
      rw [shift_down _ _ _ E1.out, show (by_ - 64).toNat = k - 64 by omega]
      refine down_over P k HP.out (by omega) (by omega) _ ?_
      have hz2 : P / 18446744073709551616 % 2 ^ (k - 64) ≠ 0 := by
        intro e; rw [e] at hz; simp at hz
      simp [hz2]
  · go_enter Try.func46, Try.ntmps46
    go_wp2
    go_ret3
    refine ⟨_, _, _, rfl, rfl, ?_⟩
    have hk1 : k = 64 := by have := E3.out; omega
    subst hk1
    have := down_over P 64 HP.out (by decide) (by decide) (lo != 0) (by rw [E2.out, show (64 : Nat) - 64 = 0 by decide, Nat.pow_zero, Nat.mod_one]; simp; omega)
    rw [show (64 : Nat) - 64 = 0 by decide, Nat.pow_zero, Nat.div_one, ← E1.out] at this
    exact this
  · go_enter Try.func46, Try.ntmps46
    go_wp2
    go_ret3
    refine ⟨_, _, _, rfl, rfl, ?_⟩
    have hk1 := E3.out
    rw [shift_up _ _ _ E1.out, shift_up _ _ _ E2.out, shift_down _ _ _ E1.out, shift_down _ _ _ E2.out, show (64 - by_).toNat = 64 - k by omega, show by_.toNat = k by omega]
    exact down_under P k HP.out (by omega) _ _ _ rfl (bne_iff_ne.trans nat_zero') (beq_iff_eq.trans nat_zero)
end Go.Proofs.Ytkfpopilkagedaa
