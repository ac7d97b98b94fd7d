/- Contracts of the num package's functions: sizes and signs. -/
import Derived.Test.YtkfpopilkagedaaNumA
import Derived.Test.YtkfpopilkagedaaShelf
set_option linter.unusedSimpArgs false
set_option linter.unusedVariables false
namespace Go.Proofs.Ytkfpopilkagedaa
open Go.RowKit Mo
theorem ret_u64 {a b : Int} (h : a = b) : Ending.returned (.int .u64 a) = .returned (.int .u64 b) := by rw [h]
theorem ret_two {a b c d : Int} (h : a = c) (h2 : b = d) : Ending.returned (.tuple #[.int .i64 a, .int .i64 b]) = .returned (.tuple #[.int .i64 c, .int .i64 d]) := by rw [h, h2]
theorem wrap_u64 (n : Int) : IntKind.u64.wrap n = n % 18446744073709551616 := by simp [IntKind.wrap, IntKind.signed, IntKind.bits]
theorem wrap_i64 (n : Int) : wrap64 n = (n + 9223372036854775808) % 18446744073709551616 - 9223372036854775808 := by unfold wrap64; omega
set_option maxHeartbeats 400000 in
theorem size_any (n : Int) (w : World) (h1 : -9223372036854775808 ≤ n) (h2 : n ≤ 9223372036854775807) :
    Calls Try.prog 43 #[.int .i64 n] w fun e w' => e = .returned (.int .u64 n.natAbs) ∧ w = w' := by
  go_enter Try.func43, Try.ntmps43
  go_wp2
  all_goals go_ret
  all_goals refine ⟨ret_u64 ?_, rfl⟩
  · rw [wrap_u64, wrap_u64]; omega
  · omega
set_option maxRecDepth 100000 in
set_option maxHeartbeats 400000 in
theorem signed_any (neg : Bool) (q : Int) (w : World) (h0 : 0 ≤ q) (h2 : q < 18446744073709551616) :
    Calls Try.prog 45 #[.bool neg, .int .u64 q] w fun e w' => e = .returned (.tuple #[.int .i64 (if pfit neg q.toNat then (if neg then -q else q) else 0), .int .i64 (if pfit neg q.toNat then 0 else 11)]) ∧ w = w' := by
  cases neg
  · by_cases h : q < 9223372036854775808
    · have hd : decide (q < 9223372036854775808) = true := by simp; omega
      have hp : pfit false q.toNat = true := by unfold pfit; simp; omega
      rw [hp]; clear h2 hp
      go_enter Try.func45, Try.ntmps45
      go_wp2
      go_ret2
      refine ⟨ret_two ?_ rfl, rfl⟩
      have := of_decide_eq_true hd
      first | rfl | (simp [wrap_i64]; omega)
    · have hd : decide (q < 9223372036854775808) = false := by simp; omega
      have hp : pfit false q.toNat = false := by unfold pfit; simp; omega
      rw [hp]; clear h2 hp
      go_enter Try.func45, Try.ntmps45
      go_wp2
      go_ret2
      exact ⟨rfl, rfl⟩
  · by_cases h : q ≤ 9223372036854775808
    · have hd : decide (q ≤ 9223372036854775808) = true := by simp; omega
      have hp : pfit true q.toNat = true := by unfold pfit; simp; omega
      rw [hp]; clear h2 hp
      go_enter Try.func45, Try.ntmps45
      go_wp2
      go_ret2
      refine ⟨ret_two ?_ rfl, rfl⟩
      have := of_decide_eq_true hd
      first | rfl | (simp [wrap_i64]; omega)
    · have hd : decide (q ≤ 9223372036854775808) = false := by simp; omega
      have hp : pfit true q.toNat = false := by unfold pfit; simp; omega
      rw [hp]; clear h2 hp
      go_enter Try.func45, Try.ntmps45
      go_wp2
      go_ret2
      exact ⟨rfl, rfl⟩
end Go.Proofs.Ytkfpopilkagedaa
