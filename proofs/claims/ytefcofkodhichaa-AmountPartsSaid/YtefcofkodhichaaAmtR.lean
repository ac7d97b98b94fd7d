/- Rates: the amount's, and the document's. -/
import Derived.Test.YtefcofkodhichaaRate
import Derived.Test.YtefcofkodhichaaClsC
import Derived.Test.YtefcofkodhichaaAmtA
import Derived.Test.YtefcofkodhichaaProdG
set_option linter.unusedSimpArgs false
set_option linter.unusedVariables false
namespace Go.Proofs.Ytefcofkodhichaa
open Go.RowKit Mo
theorem rate_ref (b : Nat) (hb : b < 18446744073709551616) :
    (rateOk b = true ∧ (cls b = 3 ∨ cls b = 4)) ∨ (rateOk b = true ∧ cls b = 5 ∧ (FloatKind.f64.format.order b 4607182418800017408 == some Ordering.lt || FloatKind.f64.format.order b 4607182418800017408 == some Ordering.eq) = true) ∨
    (rateOk b = false ∧ (cls b = 0 ∨ cls b = 1 ∨ cls b = 2 ∨ cls b = 6)) ∨ (rateOk b = false ∧ cls b = 5 ∧ (FloatKind.f64.format.order b 4607182418800017408 == some Ordering.lt || FloatKind.f64.format.order b 4607182418800017408 == some Ordering.eq) = false) := by
  have e1 : isNaN 4607182418800017408 = false := by decide
  have e2 : ikey 4607182418800017408 = 4607182418800017408 := by decide
  rw [f_le hb (by decide), e1, e2]
  unfold rateOk cls ikey isNaN isNeg rung
  by_cases h : b < 9223372036854775808
  · have h2 : b % 9223372036854775808 = b := by omega
    rw [h2]
    have h3 : ¬ 9223372036854775808 ≤ b := by omega
    simp only [h3, decide_false, if_false, Bool.false_eq_true]
    rcases (show b = 0 ∨ (0 < b ∧ b ≤ 4607182418800017408) ∨ (4607182418800017408 < b ∧ b < 9218868437227405312) ∨ b = 9218868437227405312 ∨ 9218868437227405312 < b by omega) with g | ⟨g, g'⟩ | ⟨g, g'⟩ | g | g
    · subst g; left; decide
    · right; left
      rw [if_neg (by simp; omega), if_neg (by omega), if_neg (by omega)]
      simp; omega
    · right; right; right
      rw [if_neg (by simp; omega), if_neg (by omega), if_neg (by omega)]
      simp; omega
    · subst g; right; right; left; decide
    · right; right; left
      rw [if_pos (by simp; omega)]
      simp; omega
  · have h2 : b % 9223372036854775808 = b - 9223372036854775808 := by omega
    rw [h2]
    have h3 : 9223372036854775808 ≤ b := by omega
    simp only [h3, decide_true, if_true]
    rcases (show b = 9223372036854775808 ∨ 9223372036854775808 < b by omega) with g | g
    · subst g; left; decide
    · right; right; left
      have hr : (decide (b ≤ 4607182418800017408) || decide (b = 9223372036854775808)) = false := by simp; omega
      refine ⟨hr, ?_⟩
      rw [if_neg (show ¬ b - 9223372036854775808 = 0 by omega)]
      split
      · left; rfl
      · split
        · right; left; rfl
        · right; right; left; rfl
set_option maxHeartbeats 1000000 in
theorem rated_any (b : Nat) (w : World) (hb : b < 18446744073709551616) : Calls Try.prog 25 #[.float .f64 b] w fun e w' => e = .returned (.bool (rateOk b)) ∧ w = w' := by
  have hc := rate_ref b hb
  obtain ⟨c, hcc⟩ : ∃ c, cls b = c := ⟨_, rfl⟩
  rw [hcc] at hc
  have HC := Lib.hid hcc
  clear hcc
  rcases hc with ⟨k, h⟩ | ⟨k, h, l⟩ | ⟨k, h⟩ | ⟨k, h, l⟩
  · rw [k]; clear k
    rcases h with rfl | rfl
    all_goals
      go_enter Try.func25, Try.ntmps25
      go_wp2_with (go_at_call 30; refine (rcls_any _ _ hb).mono ?_; rintro e w1 ⟨rfl, rfl⟩; rw [HC.out])
      go_ret
      exact ⟨rfl, rfl⟩
  · rw [k]; clear k
    subst h
    go_enter Try.func25, Try.ntmps25
    go_wp2_with (go_at_call 30; refine (rcls_any _ _ hb).mono ?_; rintro e w1 ⟨rfl, rfl⟩; rw [HC.out])
    go_ret
    exact ⟨ret_bool (by first | rfl | (simp; done)), rfl⟩
  · rw [k]; clear k
    rcases h with rfl | rfl | rfl | rfl
    all_goals
      go_enter Try.func25, Try.ntmps25
      go_wp2_with (go_at_call 30; refine (rcls_any _ _ hb).mono ?_; rintro e w1 ⟨rfl, rfl⟩; rw [HC.out])
      go_ret
      exact ⟨rfl, rfl⟩
  · rw [k]; clear k
    subst h
    go_enter Try.func25, Try.ntmps25
    go_wp2_with (go_at_call 30; refine (rcls_any _ _ hb).mono ?_; rintro e w1 ⟨rfl, rfl⟩; rw [HC.out])
    go_ret
    exact ⟨ret_bool (by first | rfl | (simp; done)), rfl⟩
theorem rate_cmp (b : Nat) (hb : b < 18446744073709551616) : (rateOk b = true ∧ 3 ≤ cls b ∧ cmpN b 4607182418800017408 ≤ 0) ∨ (rateOk b = false ∧ cls b < 3) ∨ (rateOk b = false ∧ 3 ≤ cls b ∧ 0 < cmpN b 4607182418800017408) := by
  have hk : keyN 4607182418800017408 = 13830554455654793216 := by decide
  have hc := cls_cases b hb
  have hw := word_of b hb
  unfold cmpN
  rw [hk]
  have hrr : rateOk b = true ↔ (b ≤ 4607182418800017408 ∨ b = 9223372036854775808) := by unfold rateOk; simp
  have hkey : isNaN b = false → isNeg b = false → keyN b = b + 9223372036854775808 := by intro h1 h2; unfold keyN; rw [h1, h2]; rfl
  have hkey2 : isNaN b = false → isNeg b = true → keyN b = 18446744073709551615 - b := by intro h1 h2; unfold keyN; rw [h1, h2]; rfl
  have hneg : isNeg b = true ↔ 9223372036854775808 ≤ b := by unfold isNeg; simp
  have hnan : isNaN b = true → rateOk b = false := by
    intro h
    rw [← Bool.not_eq_true, hrr]
    unfold isNaN rung at h
    simp at h; omega
  rcases hc with ⟨p1, p2, p3⟩ | ⟨p0, hc⟩
  · right; left; exact ⟨hnan p2, by rw [p1]; decide⟩
  · cases hg : isNeg b
    · have h1 := hkey p0 hg
      have h2 : ¬ 9223372036854775808 ≤ b := fun h => by rw [hneg.2 h] at hg; cases hg
      by_cases hr : b ≤ 4607182418800017408
      · left
        refine ⟨hrr.2 (.inl hr), by omega, ?_⟩
        split
        · decide
        · rw [if_neg (by omega)]; decide
      · right; right
        refine ⟨by rw [← Bool.not_eq_true, hrr]; omega, by omega, ?_⟩
        rw [if_neg (by omega), if_pos (by omega)]; decide
    · have h1 := hkey2 p0 hg
      have h2 := hneg.1 hg
      by_cases hr : b = 9223372036854775808
      · left
        refine ⟨hrr.2 (.inr hr), by omega, ?_⟩
        rw [if_pos (by omega)]; decide
      · right; left
        refine ⟨by rw [← Bool.not_eq_true, hrr]; omega, by omega⟩
def errR (b : Bool) : Int := if b then 0 else 43
set_option maxHeartbeats 1000000 in
theorem arate_any (b : Nat) (w : World) (hb : b < 18446744073709551616) : Calls Try.prog 24 #[.float .f64 b] w fun e w' => e = .returned (.int .i64 (errR (rateOk b))) ∧ w = w' := by
  have hc := rate_cmp b hb
  obtain ⟨c, hcc⟩ : ∃ c, cls b = c := ⟨_, rfl⟩
  obtain ⟨z, hz⟩ : ∃ z, cmpN b 4607182418800017408 = z := ⟨_, rfl⟩
  rw [hcc, hz] at hc
  have HC := Lib.hid hcc; have HZ := Lib.hid hz
  clear hcc hz
  rcases hc with ⟨k, h, l⟩ | ⟨k, h⟩ | ⟨k, h, l⟩
  · rw [k]; clear k
    have d1 : decide (c < 3) = false := by simp; omega
    have d2 : decide (0 < z) = false := by simp; omega
    go_enter Try.func24, Try.ntmps24
    go_wp2_with (first | (go_at_call 28; refine (class_any _ _ hb).mono ?_; rintro e w1 ⟨rfl, rfl⟩; rw [HC.out]) | (go_at_call 29; refine (cmp_any _ _ _ hb (by decide)).mono ?_; rintro e w1 ⟨rfl, rfl⟩; rw [HZ.out]))
    go_ret
    exact ⟨rfl, rfl⟩
  · rw [k]; clear k
    go_enter Try.func24, Try.ntmps24
    go_wp2_with (first | (go_at_call 28; refine (class_any _ _ hb).mono ?_; rintro e w1 ⟨rfl, rfl⟩; rw [HC.out]) | (go_at_call 29; refine (cmp_any _ _ _ hb (by decide)).mono ?_; rintro e w1 ⟨rfl, rfl⟩; rw [HZ.out]))
    go_ret
    exact ⟨rfl, rfl⟩
  · rw [k]; clear k
    have d1 : decide (c < 3) = false := by simp; omega
    go_enter Try.func24, Try.ntmps24
    go_wp2_with (first | (go_at_call 28; refine (class_any _ _ hb).mono ?_; rintro e w1 ⟨rfl, rfl⟩; rw [HC.out]) | (go_at_call 29; refine (cmp_any _ _ _ hb (by decide)).mono ?_; rintro e w1 ⟨rfl, rfl⟩; rw [HZ.out]))
    go_ret
    exact ⟨rfl, rfl⟩
/-- a fee, or why there is none -/
def FeeIs (n : Int) (b : Nat) (V E : Int) : Prop := (isA n = false ∧ V = 0 ∧ E = 40) ∨ (isA n = true ∧ rateOk b = false ∧ V = 0 ∧ E = 43) ∨ (isA n = true ∧ rateOk b = true ∧ V = prodV n b false ∧ E = prodE n b false)
theorem fee_of (n : Int) (b : Nat) : ∃ V E, FeeIs n b V E := by
  unfold FeeIs
  cases isA n
  · exact ⟨_, _, .inl ⟨rfl, rfl, rfl⟩⟩
  · cases rateOk b
    · exact ⟨_, _, .inr (.inl ⟨rfl, rfl, rfl, rfl⟩)⟩
    · exact ⟨_, _, .inr (.inr ⟨rfl, rfl, rfl, rfl⟩)⟩
set_option maxHeartbeats 1000000 in
theorem fee_any (n : Int) (b : Nat) (V E : Int) (w : World) (h : FeeIs n b V E) (n1 : -9223372036854775808 ≤ n) (n2 : n ≤ 9223372036854775807) (hb : b < 18446744073709551616) :
    Calls Try.prog 22 #[.int .i64 n, .float .f64 b] w fun e w' => e = .returned (.tuple #[.int .i64 V, .int .i64 E]) ∧ w = w' := by
  rcases h with ⟨h, rfl, rfl⟩ | ⟨h, k, rfl, rfl⟩ | ⟨h, k, hV, hE⟩
  · have HH := Lib.hid h; clear h
    go_enter Try.func22, Try.ntmps22
    go_wp2_with (go_at_call 16; refine (acheck_any _ _).mono ?_; rintro e w1 ⟨rfl, rfl⟩; rw [HH.out, show errA false = 40 from rfl])
    go_ret2
    exact ⟨rfl, rfl⟩
  · have HH := Lib.hid h; have HK := Lib.hid k; clear h k
    go_enter Try.func22, Try.ntmps22
    go_wp2_with (first | (go_at_call 16; refine (acheck_any _ _).mono ?_; rintro e w1 ⟨rfl, rfl⟩; rw [HH.out, show errA true = 0 from rfl]) | (go_at_call 24; refine (arate_any _ _ hb).mono ?_; rintro e w1 ⟨rfl, rfl⟩; rw [HK.out, show errR false = 43 from rfl]))
    go_ret2
    exact ⟨rfl, rfl⟩
  · have HH := Lib.hid h; have HK := Lib.hid k; have HV := Lib.hid hV.symm; have HE := Lib.hid hE.symm; clear h k hV hE
    go_enter Try.func22, Try.ntmps22
    go_wp2_with (first | (go_at_call 16; refine (acheck_any _ _).mono ?_; rintro e w1 ⟨rfl, rfl⟩; rw [HH.out, show errA true = 0 from rfl]) | (go_at_call 24; refine (arate_any _ _ hb).mono ?_; rintro e w1 ⟨rfl, rfl⟩; rw [HK.out, show errR true = 0 from rfl]) | (go_at_call 26; refine (times_any n _ _ n1 n2 hb).mono ?_; rintro e w1 ⟨rfl, rfl⟩; rw [HV.out, HE.out]))
    go_ret2
    exact ⟨rfl, rfl⟩
set_option maxHeartbeats 1000000 in
theorem rfee_any (n : Int) (b : Nat) (V E : Int) (w : World) (h : FeeIs n b V E) (n1 : -9223372036854775808 ≤ n) (n2 : n ≤ 9223372036854775807) (hb : b < 18446744073709551616) :
    Calls Try.prog 23 #[.int .i64 n, .float .f64 b] w fun e w' => e = .returned (.tuple #[.int .i64 V, .int .i64 E]) ∧ Below w.heap.size w w' := by
  have HB : Hid (Below w.heap.size w w) := Lib.hid (Below.refl _ _)
  rcases h with ⟨h, rfl, rfl⟩ | ⟨h, k, rfl, rfl⟩ | ⟨h, k, hV, hE⟩
  · have HH := Lib.hid h; clear h
    go_enter Try.func23, Try.ntmps23
    go_wp2_with (go_at_call 17; refine (ris_any _ _).mono ?_; rintro e w1 ⟨rfl, rfl⟩; rw [HH.out])
    go_ret2
    exact ⟨rfl, Below.refl _ _⟩
  · have HH := Lib.hid h; have HK := Lib.hid k; clear h k
    go_enter Try.func23, Try.ntmps23
    go_wp2_with (first | (go_at_call 17; refine (ris_any _ _).mono ?_; rintro e w1 ⟨rfl, rfl⟩; rw [HH.out]) | (go_at_call 25; refine (rated_any _ _ hb).mono ?_; rintro e w1 ⟨rfl, rfl⟩; rw [HK.out]))
    go_ret2
    exact ⟨rfl, Below.refl _ _⟩
  · have HH := Lib.hid h; have HK := Lib.hid k; have HV := Lib.hid hV.symm; have HE := Lib.hid hE.symm; clear h k hV hE
    go_enter Try.func23, Try.ntmps23
    go_wp2_with (first | (go_at_call 17; refine (ris_any _ _).mono ?_; rintro e w1 ⟨rfl, rfl⟩; rw [HH.out]) | (go_at_call 25; refine (rated_any _ _ hb).mono ?_; rintro e w1 ⟨rfl, rfl⟩; rw [HK.out]) | (go_at_call 27; refine (rproduct_any n _ false _ n1 n2 hb).mono ?_; rintro e w5 ⟨rfl, hb⟩; rw [HV.out, HE.out]; replace HB := Lib.hid (below_then (w := w) (by repeat (first | exact HB.out | refine below_alloc_ ?_ _ | exact Below.refl _ _)) hb); clear hb))
    go_ret2
    exact ⟨rfl, HB.out⟩
end Go.Proofs.Ytefcofkodhichaa
