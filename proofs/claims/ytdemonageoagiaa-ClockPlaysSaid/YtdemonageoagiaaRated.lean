/- The document on rates. -/
import Derived.Test.YtdemonageoagiaaRate
import Derived.Test.YtdemonageoagiaaClsR
import Derived.Test.YtdemonageoagiaaSpc
set_option linter.unusedSimpArgs false
set_option linter.unusedVariables false
namespace Go.Proofs.Ytdemonageoagiaa
open Go.RowKit Mo
theorem rate_ref (b : Nat) (hb : b < 18446744073709551616) :
    (rateOk b = true ∧ (cls b = 3 ∨ cls b = 4)) ∨ (rateOk b = true ∧ cls b = 5 ∧ (FloatKind.f64.format.order b 4607182418800017408 == some Ordering.lt || FloatKind.f64.format.order b 4607182418800017408 == some Ordering.eq) = true) ∨
    (rateOk b = false ∧ (cls b = 0 ∨ cls b = 1 ∨ cls b = 2 ∨ cls b = 6)) ∨ (rateOk b = false ∧ cls b = 5 ∧ (FloatKind.f64.format.order b 4607182418800017408 == some Ordering.lt || FloatKind.f64.format.order b 4607182418800017408 == some Ordering.eq) = false) := by
  have e1 : isNaN 4607182418800017408 = false := by decide
  have e2 : ikey 4607182418800017408 = 4607182418800017408 := by decide
  rw [f_le hb (by decide), e1, e2]
  unfold rateOk cls ikey isNaN isNeg rung
  by_cases h : b < 9223372036854775808
  · have h2 : b % 9223372036854775808 = b := by omega
    rw [h2]
    have h3 : ¬ 9223372036854775808 ≤ b := by omega
    simp only [h3, decide_false, if_false, Bool.false_eq_true]
    rcases (show b = 0 ∨ (0 < b ∧ b ≤ 4607182418800017408) ∨ (4607182418800017408 < b ∧ b < 9218868437227405312) ∨ b = 9218868437227405312 ∨ 9218868437227405312 < b by omega) with g | ⟨g, g'⟩ | ⟨g, g'⟩ | g | g
    · subst g; left; decide
    · right; left
      rw [if_neg (by simp; omega), if_neg (by omega), if_neg (by omega)]
      simp; omega
    · right; right; right
      rw [if_neg (by simp; omega), if_neg (by omega), if_neg (by omega)]
      simp; omega
    · subst g; right; right; left; decide
    · right; right; left
      rw [if_pos (by simp; omega)]
      simp; omega
  · have h2 : b % 9223372036854775808 = b - 9223372036854775808 := by omega
    rw [h2]
    have h3 : 9223372036854775808 ≤ b := by omega
    simp only [h3, decide_true, if_true]
    rcases (show b = 9223372036854775808 ∨ 9223372036854775808 < b by omega) with g | g
    · subst g; left; decide
    · right; right; left
      have hr : (decide (b ≤ 4607182418800017408) || decide (b = 9223372036854775808)) = false := by simp; omega
      refine ⟨hr, ?_⟩
      rw [if_neg (show ¬ b - 9223372036854775808 = 0 by omega)]
      split
      · left; rfl
      · split
        · right; left; rfl
        · right; right; left; rfl
set_option maxHeartbeats 1000000 in
theorem rated_any (b : Nat) (w : World) (hb : b < 18446744073709551616) : Calls Try.prog 23 #[.float .f64 b] w fun e w' => e = .returned (.bool (rateOk b)) ∧ w = w' := by
  have hc := rate_ref b hb
  obtain ⟨c, hcc⟩ : ∃ c, cls b = c := ⟨_, rfl⟩
  rw [hcc] at hc
  have HC := Lib.hid hcc
  clear hcc
  rcases hc with ⟨k, h⟩ | ⟨k, h, l⟩ | ⟨k, h⟩ | ⟨k, h, l⟩
  · rw [k]; clear k
    rcases h with rfl | rfl
    all_goals
      go_enter Try.func23, Try.ntmps23
      go_wp2_with (go_at_call 36; refine (rcls_any _ _ hb).mono ?_; rintro e w1 ⟨rfl, rfl⟩; rw [HC.out])
      go_ret
      exact ⟨rfl, rfl⟩
  · rw [k]; clear k
    subst h
    go_enter Try.func23, Try.ntmps23
    go_wp2_with (go_at_call 36; refine (rcls_any _ _ hb).mono ?_; rintro e w1 ⟨rfl, rfl⟩; rw [HC.out])
    go_ret
    exact ⟨ret_bool (by first | rfl | (simp; done)), rfl⟩
  · rw [k]; clear k
    rcases h with rfl | rfl | rfl | rfl
    all_goals
      go_enter Try.func23, Try.ntmps23
      go_wp2_with (go_at_call 36; refine (rcls_any _ _ hb).mono ?_; rintro e w1 ⟨rfl, rfl⟩; rw [HC.out])
      go_ret
      exact ⟨rfl, rfl⟩
  · rw [k]; clear k
    subst h
    go_enter Try.func23, Try.ntmps23
    go_wp2_with (go_at_call 36; refine (rcls_any _ _ hb).mono ?_; rintro e w1 ⟨rfl, rfl⟩; rw [HC.out])
    go_ret
    exact ⟨ret_bool (by first | rfl | (simp; done)), rfl⟩
end Go.Proofs.Ytdemonageoagiaa
