/- The document on a clock's rate. -/
import Derived.Test.YtaaocomhmlimaaaCkI
import Derived.Test.YtaaocomhmlimaaaRated
set_option linter.unusedSimpArgs false
set_option linter.unusedVariables false
namespace Go.Proofs.Ytaaocomhmlimaaa
open Go.RowKit Mo
theorem rated6_any (b : Nat) (w : World) (hb : b < 18446744073709551616) : Calls Try.prog 7 #[.float .f64 b] w fun e w' => e = .returned (.bool (rate6 b)) ∧ w = w' := by
  cases hr : rateOk b
  · have h6 : rate6 b = false := by
      cases h : rate6 b
      · rfl
      · rw [rate6_ok h] at hr; cases hr
    rw [h6]
    have HR := Lib.hid hr
    clear hr h6
    go_enter Try.func7, Try.ntmps7
    go_wp2_with (go_at_call 16; refine (rated_any _ _ hb).mono ?_; rintro e w1 ⟨rfl, rfl⟩; rw [HR.out])
    go_ret
    exact ⟨rfl, rfl⟩
  · have hc := rate6_ref b hb hr
    have HR := Lib.hid hr
    obtain ⟨x, hx⟩ : ∃ x, rate6 b = x := ⟨_, rfl⟩
    rw [hx] at hc ⊢
    clear hr hx
    go_enter Try.func7, Try.ntmps7
    go_wp2_with (go_at_call 16; refine (rated_any _ _ hb).mono ?_; rintro e w1 ⟨rfl, rfl⟩; rw [HR.out])
    go_ret
    exact ⟨rfl, rfl⟩
end Go.Proofs.Ytaaocomhmlimaaa
