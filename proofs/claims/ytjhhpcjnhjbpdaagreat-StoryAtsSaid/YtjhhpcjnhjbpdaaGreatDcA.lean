/- The document on amounts: contracts. -/
import Derived.Test.YtjhhpcjnhjbpdaaGreatPN
import Derived.Test.YtjhhpcjnhjbpdaaGreatPP
import Derived.Test.YtjhhpcjnhjbpdaaGreatPK
set_option linter.unusedSimpArgs false
set_option linter.unusedVariables false
namespace Go.Proofs.YtjhhpcjnhjbpdaaGreat
open Go.RowKit Mo
theorem ret_bool {a b : Bool} (h : a = b) : Ending.returned (.bool a) = .returned (.bool b) := by rw [h]
set_option maxHeartbeats 400000 in
theorem ris_any (n : Int) (w : World) : Calls Tryz.prog 19 #[.int .i64 n] w fun e w' => e = .returned (.bool (isA n)) ∧ w = w' := by
  rcases (show (n < 0) ∨ (0 ≤ n ∧ 1000000000000000 < n) ∨ (0 ≤ n ∧ n ≤ 1000000000000000) by omega) with h | ⟨h, h2⟩ | ⟨h, h2⟩
  · have e : isA n = false := isA_not.2 (by omega)
    rw [e]; clear e
    go_enter Tryz.func19, Tryz.ntmps19
    go_wp2
    go_ret
    exact ⟨rfl, rfl⟩
  · have e : isA n = false := isA_not.2 (by omega)
    rw [e]; clear e
    have d1 : decide (n ≤ 1000000000000000) = false := by simp; omega
    go_enter Tryz.func19, Tryz.ntmps19
    go_wp2
    go_ret
    exact ⟨ret_bool (by first | rfl | (simp; done) | (simp; omega)), rfl⟩
  · have e : isA n = true := isA_iff.2 ⟨h, h2⟩
    rw [e]; clear e
    go_enter Tryz.func19, Tryz.ntmps19
    go_wp2
    go_ret
    exact ⟨ret_bool (by first | rfl | (simp; done) | (simp; omega)), rfl⟩
theorem rate_ref (b : Nat) (hb : b < 18446744073709551616) :
    (rateOk b = true ∧ (cls b = 3 ∨ cls b = 4)) ∨ (rateOk b = true ∧ cls b = 5 ∧ (FloatKind.f64.format.order b 4607182418800017408 == some Ordering.lt || FloatKind.f64.format.order b 4607182418800017408 == some Ordering.eq) = true) ∨
    (rateOk b = false ∧ (cls b = 0 ∨ cls b = 1 ∨ cls b = 2 ∨ cls b = 6)) ∨ (rateOk b = false ∧ cls b = 5 ∧ (FloatKind.f64.format.order b 4607182418800017408 == some Ordering.lt || FloatKind.f64.format.order b 4607182418800017408 == some Ordering.eq) = false) := by
  have e1 : isNaN 4607182418800017408 = false := by decide
  have e2 : ikey 4607182418800017408 = 4607182418800017408 := by decide
  rw [f_le hb (by decide), e1, e2]
  unfold rateOk cls ikey isNaN isNeg rung
  by_cases h : b < 9223372036854775808
  · have h2 : b % 9223372036854775808 = b := by omega
    rw [h2]
    have h3 : ¬ 9223372036854775808 ≤ b := by omega
    simp only [h3, decide_false, if_false, Bool.false_eq_true]
    rcases (show b = 0 ∨ (0 < b ∧ b ≤ 4607182418800017408) ∨ (4607182418800017408 < b ∧ b < 9218868437227405312) ∨ b = 9218868437227405312 ∨ 9218868437227405312 < b by omega) with g | ⟨g, g'⟩ | ⟨g, g'⟩ | g | g
    · subst g; left; decide
    · right; left
      rw [if_neg (by simp; omega), if_neg (by omega), if_neg (by omega)]
      simp; omega
    · right; right; right
      rw [if_neg (by simp; omega), if_neg (by omega), if_neg (by omega)]
      simp; omega
    · subst g; right; right; left; decide
    · right; right; left
      rw [if_pos (by simp; omega)]
      simp; omega
  · have h2 : b % 9223372036854775808 = b - 9223372036854775808 := by omega
    rw [h2]
    have h3 : 9223372036854775808 ≤ b := by omega
    simp only [h3, decide_true, if_true]
    rcases (show b = 9223372036854775808 ∨ 9223372036854775808 < b by omega) with g | g
    · subst g; left; decide
    · right; right; left
      have hr : (decide (b ≤ 4607182418800017408) || decide (b = 9223372036854775808)) = false := by simp; omega
      refine ⟨hr, ?_⟩
      rw [if_neg (show ¬ b - 9223372036854775808 = 0 by omega)]
      split
      · left; rfl
      · split
        · right; left; rfl
        · right; right; left; rfl
set_option maxHeartbeats 1000000 in
theorem rated_any (b : Nat) (w : World) (hb : b < 18446744073709551616) : Calls Tryz.prog 18 #[.float .f64 b] w fun e w' => e = .returned (.bool (rateOk b)) ∧ w = w' := by
  have hc := rate_ref b hb
  obtain ⟨c, hcc⟩ : ∃ c, cls b = c := ⟨_, rfl⟩
  rw [hcc] at hc
  have HC := Lib.hid hcc
  clear hcc
  rcases hc with ⟨k, h⟩ | ⟨k, h, l⟩ | ⟨k, h⟩ | ⟨k, h, l⟩
  · rw [k]; clear k
    rcases h with rfl | rfl
    all_goals
      go_enter Tryz.func18, Tryz.ntmps18
      go_wp2_with (go_at_call 41; refine (rcls_any _ _ hb).mono ?_; rintro e w1 ⟨rfl, rfl⟩; rw [HC.out])
      go_ret
      exact ⟨rfl, rfl⟩
  · rw [k]; clear k
    subst h
    go_enter Tryz.func18, Tryz.ntmps18
    go_wp2_with (go_at_call 41; refine (rcls_any _ _ hb).mono ?_; rintro e w1 ⟨rfl, rfl⟩; rw [HC.out])
    go_ret
    exact ⟨ret_bool (by first | rfl | (simp; done)), rfl⟩
  · rw [k]; clear k
    rcases h with rfl | rfl | rfl | rfl
    all_goals
      go_enter Tryz.func18, Tryz.ntmps18
      go_wp2_with (go_at_call 41; refine (rcls_any _ _ hb).mono ?_; rintro e w1 ⟨rfl, rfl⟩; rw [HC.out])
      go_ret
      exact ⟨rfl, rfl⟩
  · rw [k]; clear k
    subst h
    go_enter Tryz.func18, Tryz.ntmps18
    go_wp2_with (go_at_call 41; refine (rcls_any _ _ hb).mono ?_; rintro e w1 ⟨rfl, rfl⟩; rw [HC.out])
    go_ret
    exact ⟨ret_bool (by first | rfl | (simp; done)), rfl⟩
set_option maxHeartbeats 1000000 in
theorem rfee_any (n : Int) (b : Nat) (V E : Int) (w : World) (h : FeeIs n b V E) (n1 : -9223372036854775808 ≤ n) (n2 : n ≤ 9223372036854775807) (hb : b < 18446744073709551616) :
    Calls Tryz.prog 45 #[.int .i64 n, .float .f64 b] w fun e w' => e = .returned (.tuple #[.int .i64 V, .int .i64 E]) ∧ Below w.heap.size w w' := by
  have HB : Hid (Below w.heap.size w w) := Lib.hid (Below.refl _ _)
  rcases h with ⟨h, rfl, rfl⟩ | ⟨h, k, rfl, rfl⟩ | ⟨h, k, hV, hE⟩
  · have HH := Lib.hid h; clear h
    go_enter Tryz.func45, Tryz.ntmps45
    go_wp2_with (go_at_call 19; refine (ris_any _ _).mono ?_; rintro e w1 ⟨rfl, rfl⟩; rw [HH.out])
    go_ret2
    exact ⟨rfl, Below.refl _ _⟩
  · have HH := Lib.hid h; have HK := Lib.hid k; clear h k
    go_enter Tryz.func45, Tryz.ntmps45
    go_wp2_with (first | (go_at_call 19; refine (ris_any _ _).mono ?_; rintro e w1 ⟨rfl, rfl⟩; rw [HH.out]) | (go_at_call 18; refine (rated_any _ _ hb).mono ?_; rintro e w1 ⟨rfl, rfl⟩; rw [HK.out]))
    go_ret2
    exact ⟨rfl, Below.refl _ _⟩
  · have HH := Lib.hid h; have HK := Lib.hid k; have HV := Lib.hid hV.symm; have HE := Lib.hid hE.symm; clear h k hV hE
    go_enter Tryz.func45, Tryz.ntmps45
    go_wp2_with (first | (go_at_call 19; refine (ris_any _ _).mono ?_; rintro e w1 ⟨rfl, rfl⟩; rw [HH.out]) | (go_at_call 18; refine (rated_any _ _ hb).mono ?_; rintro e w1 ⟨rfl, rfl⟩; rw [HK.out]) | (go_at_call 57; refine (rproduct_any n _ false _ n1 n2 hb).mono ?_; rintro e w5 ⟨rfl, hb⟩; rw [HV.out, HE.out]; replace HB := Lib.hid (below_then (w := w) (by repeat (first | exact HB.out | refine below_alloc_ ?_ _ | exact Below.refl _ _)) hb); clear hb))
    go_ret2
    exact ⟨rfl, HB.out⟩
end Go.Proofs.YtjhhpcjnhjbpdaaGreat
