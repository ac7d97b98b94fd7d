/- Contracts of the document's functions of floats: None, Class (where the keys are not). -/
import Derived.Test.YtdemonageoagiaaNumV
set_option linter.unusedSimpArgs false
set_option linter.unusedVariables false
namespace Go.Proofs.Ytdemonageoagiaa
open Go.RowKit Mo
theorem top_bit (b : Nat) (hb : b < 18446744073709551616) : ((b : Int) / 9223372036854775808 == 1) = isNeg b := by
  unfold isNeg
  rw [Bool.eq_iff_iff, beq_iff_eq, decide_eq_true_iff]
  omega
theorem shl1 (b : Nat) (hb : b < 18446744073709551616) : IntKind.u64.wrap ((b : Int) * 2) = (2 * rung b : Nat) := by
  rw [wrap_u64]; unfold rung; omega
set_option maxHeartbeats 400000 in
theorem none_any (b : Nat) (w : World) (hb : b < 18446744073709551616) : Calls Try.prog 42 #[.float .f64 b] w fun e w' => e = .returned (.bool (isNaN b)) ∧ w = w' := by
  have hr := run_bits
  have hs := shl1 b hb
  have hd : isNaN b = decide ((18437736874454810624 : Int) < (2 * rung b : Nat)) := by unfold isNaN; rw [Bool.eq_iff_iff, decide_eq_true_iff, decide_eq_true_iff]; omega
  have HD := Lib.hid hd
  clear hd
  go_enter Try.func42, Try.ntmps42
  go_wp2
  go_ret
  refine ⟨?_, rfl⟩
  show Ending.returned (.bool (decide ((18437736874454810624 : Int) < 2 * (rung b : Int)))) = _
  rw [HD.out]
  simp
set_option maxRecDepth 100000 in
set_option maxHeartbeats 800000 in
theorem rcls_any (b : Nat) (w : World) (hb : b < 18446744073709551616) : Calls Try.prog 36 #[.float .f64 b] w fun e w' => e = .returned (.int .i64 (cls b)) ∧ w = w' := by
  have hr := run_bits
  have hs := shl1 b hb
  have e1 := top_bit b hb
  go_enter Try.func36, Try.ntmps36
  go_wp2_with (go_at_call 42; refine (none_any _ _ hb).mono ?_; rintro e w1 ⟨rfl, rfl⟩)
  all_goals
    go_ret
    refine ⟨ret_i64 ?_, rfl⟩
    clear hr hs e1
    unfold cls
    (repeat' split) <;> first | rfl | (exfalso; simp_all; done) | (exfalso; simp_all; omega)
end Go.Proofs.Ytdemonageoagiaa
