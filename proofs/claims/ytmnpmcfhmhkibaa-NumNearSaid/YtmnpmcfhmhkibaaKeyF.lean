/- The chapter's example of floats. -/
import Derived.Test.YtmnpmcfhmhkibaaKeyC
set_option linter.unusedSimpArgs false
set_option linter.unusedVariables false
namespace Go.Proofs.Ytmnpmcfhmhkibaa
open Go.RowKit Mo
theorem archfloor_lit (w : World) : (callFunc 55 #[.float .f64 13826050856027422720]).run Try.prog w = .ok (.value (.float .f64 13830554455654793216)) w := by kernel_rfl
set_option maxRecDepth 100000 in
set_option maxHeartbeats 1000000 in
theorem floor_lit (w : World) : Calls Try.prog 29 #[.float .f64 13826050856027422720] w fun e w' => e = .returned (.tuple #[.int .i64 (-1), .int .i64 0]) ∧ w = w' := by
  have hr := archfloor_lit
  have e0 : (FloatKind.f64.format.order 13826050856027422720 13826050856027422720 != some Ordering.eq) = false := by decide +kernel
  have e1 : (FloatKind.f64.format.order 13830554455654793216 14114281232179134464 == some Ordering.lt) = false := by decide +kernel
  have e2 : (FloatKind.f64.format.order 13830554455654793216 4890909195324358656 == some Ordering.lt) = true := by decide +kernel
  have e3 : (FloatKind.f64.format.order 13830554455654793216 4890909195324358656 == some Ordering.gt || FloatKind.f64.format.order 13830554455654793216 4890909195324358656 == some Ordering.eq) = false := by decide +kernel
  have hc : ∀ w : World, (convert 22 2 (.float .f64 13830554455654793216)).run Try.prog w = .ok (.int .i64 (-1)) w := fun w => run_convert_float_int w _ _ _ _ _ _ (by kernel_rfl) (by kernel_rfl) (by decide)
  go_enter Try.func29, Try.ntmps29
  go_wp2
  go_ret2
  exact ⟨rfl, rfl⟩
end Go.Proofs.Ytmnpmcfhmhkibaa
