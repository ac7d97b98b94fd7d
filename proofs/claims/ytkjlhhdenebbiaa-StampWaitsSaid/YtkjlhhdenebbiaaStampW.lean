/- StampWaits: the walk. -/
import Derived.Test.YtkjlhhdenebbiaaStampB
import Derived.Test.YtkjlhhdenebbiaaOpen10
import Derived.Test.YtkjlhhdenebbiaaStampI
set_option linter.unusedSimpArgs false
set_option linter.unusedVariables false
namespace Go.Proofs.Ytkjlhhdenebbiaa
open Go.RowKit
set_option maxHeartbeats 1000000 in
theorem stampWaits_walk (w : World) (t : Int) (wt : (Lit.int .i64 t).wf = true) (lo hi : Int) (w0 : (Lit.int .i64 lo).wf = true) (w1 : (Lit.int .i64 hi).wf = true) :
    Calls Try.prog 4 #[.int .i64 t, .agg #[.int .i64 lo, .int .i64 hi]] w fun e w' => e = .returned (.bool true) ∧ Below w.heap.size w w' := by
  have ht := i64_wf wt
  clear wt w0 w1
  obtain ⟨ht1, ht2⟩ := ht
  rcases (show t < 1 ∨ 1125899906842624 < t ∨ (1 ≤ t ∧ t ≤ 1125899906842624 ∧ (lo < 0 ∨ (0 ≤ lo ∧ 1125899906842624 < lo) ∨ (0 ≤ lo ∧ lo ≤ 1125899906842624 ∧ hi < 0) ∨ (0 ≤ lo ∧ lo ≤ 1125899906842624 ∧ 0 ≤ hi ∧ 1125899906842624 < hi) ∨ (0 ≤ lo ∧ lo ≤ 1125899906842624 ∧ 0 ≤ hi ∧ hi ≤ 1125899906842624 ∧ hi < lo) ∨ (0 ≤ lo ∧ lo ≤ hi ∧ hi ≤ 1125899906842624 ∧ t < lo) ∨ (0 ≤ lo ∧ lo ≤ hi ∧ hi ≤ 1125899906842624 ∧ lo ≤ t))) by omega) with h | h | ⟨h1, h2, h | ⟨h3, h⟩ | ⟨h3, h4, h⟩ | ⟨h3, h4, h5, h⟩ | ⟨h3, h4, h5, h6, h⟩ | ⟨h3, h4, h5, h⟩ | ⟨h3, h4, h5, h⟩⟩
  all_goals
    try have hdec : decide (lo ≤ hi) = false := by simp; omega
    go_enter Try.func4, Try.ntmps4
    go_wp2_with (first | (go_at_call 8; refine (awake10_any _).mono ?_; rintro e w5 ⟨rfl, hb⟩; obtain ⟨hc, hf⟩ := bcell hb; have HB := Lib.hid hb; clear hb) | go_in)
    all_goals
      go_ret
      refine ⟨by first | rfl | (simp; done) | (simp; omega), ?_⟩
      refine below_then ?_ HB.out
      repeat (first | exact Below.refl _ _ | refine below_alloc_ ?_ _ | refine Below.drew ?_)
end Go.Proofs.Ytkjlhhdenebbiaa
