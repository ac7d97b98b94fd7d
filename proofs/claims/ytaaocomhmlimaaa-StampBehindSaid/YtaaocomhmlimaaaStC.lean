/- Stamps: the contract of Wait, and a source's Next without more numbers. -/
import Derived.Test.YtaaocomhmlimaaaStampB
import Derived.Test.YtaaocomhmlimaaaCkI
import Derived.Test.YtaaocomhmlimaaaCkB
import Derived.Laws.BitsAllLaws
import Derived.Laws.Bits128
set_option linter.unusedSimpArgs false
set_option linter.unusedVariables false
namespace Go.Proofs.Ytaaocomhmlimaaa
open Go.RowKit Mo
set_option maxHeartbeats 1000000 in
theorem wait_ok (t lo hi : Int) (w : World) (h0 : 1 ≤ t) (h1 : t ≤ 1125899906842624) (h2 : 0 ≤ lo) (h3 : lo ≤ hi) (h4 : hi ≤ 1125899906842624) (n : Int) (hn : max (t + 1 - lo) 0 = n) :
    Calls Try.prog 12 #[.int .i64 t, .agg #[.int .i64 lo, .int .i64 hi]] w fun e w' => e = .returned (.tuple #[.int .i64 n, .int .i64 0]) ∧ Below w.heap.size w w' := by
  have HN := Lib.hid hn
  clear hn
  go_enter Try.func12, Try.ntmps12
  go_wp2_with (go_in)
  go_ret2
  exact ⟨by rw [← HN.out]; rfl, by repeat (first | exact Hid.out (by assumption) | exact Below.refl _ _ | refine below_alloc_ ?_ _ | refine below_drewN_ ?_ _ | refine Below.drew ?_ | refine below_set_ ?_ (by first | exact Nat.le_refl _ | (simp; done) | (simp; omega)) _)⟩
set_option maxHeartbeats 400000 in
theorem brought_any (n m : Int) (w : World) (h0 : 0 ≤ m) (h1 : m ≤ 9223372036854775807) : Calls Try.prog 9 #[.int .i64 n, .int .i64 m] w fun e w' => e = .returned (.int .i64 (bro n m)) ∧ w = w' := by
  unfold bro
  rcases (show m < n ∨ (n ≤ m ∧ n < -m) ∨ (n ≤ m ∧ -m ≤ n) by omega) with h | ⟨h, h'⟩ | ⟨h, h'⟩
  · rw [if_pos h]
    go_enter Try.func9, Try.ntmps9
    go_wp2
    go_ret
    exact ⟨rfl, rfl⟩
  · rw [if_neg (by omega), if_pos h']
    go_enter Try.func9, Try.ntmps9
    go_wp2
    go_ret
    exact ⟨rfl, rfl⟩
  · rw [if_neg (by omega), if_neg (by omega)]
    have hd : decide (n < -m) = false := by simp; omega
    go_enter Try.func9, Try.ntmps9
    go_wp2
    go_ret
    exact ⟨rfl, rfl⟩
theorem i64_and40 (n : Int) : bits .and .i64 n 1099511627775 = n % 1099511627776 := by
  have h : (BitVec.ofInt 64 1099511627775).toNat = 2 ^ 40 - 1 := by decide
  have key : (BitVec.ofInt 64 n &&& BitVec.ofInt 64 1099511627775).toNat = (n % ((2 ^ 64 : Nat) : Int)).toNat % 2 ^ 40 := by
    rw [BitVec.toNat_and, BitVec.toNat_ofInt, h, Nat.and_two_pow_sub_one_eq_mod]
  show IntKind.i64.wrap ((BitVec.ofInt 64 n &&& BitVec.ofInt 64 1099511627775).toNat : Nat) = n % 1099511627776
  rw [key, IntKind.wrap_i64]
  omega
theorem and40 (n : Int) : ∃ m, bits .and .i64 n 1099511627775 = m ∧ 0 ≤ m ∧ m ≤ 1099511627775 := ⟨_, i64_and40 n, by omega, by omega⟩
end Go.Proofs.Ytaaocomhmlimaaa
