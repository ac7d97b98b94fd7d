/- Contracts of the document's functions of floats: Cmp, Bits. -/
import Derived.Test.YtmnpmcfhmhkibaaKeyB
set_option linter.unusedSimpArgs false
set_option linter.unusedVariables false
namespace Go.Proofs.Ytmnpmcfhmhkibaa
open Go.RowKit Mo
theorem cls_cases (b : Nat) (hb : b < 18446744073709551616) :
    (cls b = 0 ∧ isNaN b = true ∧ keyN b = 0) ∨
    (isNaN b = false ∧ ((cls b = 1 ∧ keyN b = 4503599627370495 ∧ ikey b = -9218868437227405312) ∨
      (cls b = 2 ∧ 4503599627370495 < keyN b ∧ keyN b < 9223372036854775807 ∧ ikey b = (keyN b : Int) - 9223372036854775807) ∨
      (cls b = 3 ∧ keyN b = 9223372036854775807 ∧ ikey b = 0) ∨ (cls b = 4 ∧ keyN b = 9223372036854775808 ∧ ikey b = 0) ∨
      (cls b = 5 ∧ 9223372036854775808 < keyN b ∧ keyN b < 18442240474082181120 ∧ ikey b = (keyN b : Int) - 9223372036854775808) ∨
      (cls b = 6 ∧ keyN b = 18442240474082181120 ∧ ikey b = 9218868437227405312))) := by
  have hw := word_of b hb
  cases hn : isNaN b
  · right
    refine ⟨rfl, ?_⟩
    have hr : rung b ≤ 9218868437227405312 := by unfold isNaN at hn; simpa using hn
    unfold cls keyN ikey
    rw [hn]
    cases hg : isNeg b
    · rw [hg] at hw
      simp only [Bool.false_eq_true, if_false, Nat.zero_add] at hw ⊢
      rcases (show rung b = 0 ∨ rung b = 9218868437227405312 ∨ (0 < rung b ∧ rung b < 9218868437227405312) by omega) with h | h | ⟨h, h'⟩
      · rw [if_pos h]; right; right; right; left; refine ⟨rfl, by omega, by omega⟩
      · rw [if_neg (by omega), if_pos h]; right; right; right; right; right; refine ⟨rfl, by omega, by omega⟩
      · rw [if_neg (by omega), if_neg (by omega)]; right; right; right; right; left; refine ⟨rfl, by omega, by omega, by omega⟩
    · rw [hg] at hw
      simp only [Bool.false_eq_true, if_false, if_true] at hw ⊢
      rcases (show rung b = 0 ∨ rung b = 9218868437227405312 ∨ (0 < rung b ∧ rung b < 9218868437227405312) by omega) with h | h | ⟨h, h'⟩
      · rw [if_pos h]; right; right; left; refine ⟨rfl, by omega, by omega⟩
      · rw [if_neg (by omega), if_pos h]; left; refine ⟨rfl, by omega, by omega⟩
      · rw [if_neg (by omega), if_neg (by omega)]; right; left; refine ⟨rfl, by omega, by omega, by omega⟩
  · left
    unfold cls keyN; rw [hn]; exact ⟨rfl, rfl, rfl⟩
theorem cmp_cases (a b : Nat) (ha : a < 18446744073709551616) (hb : b < 18446744073709551616) :
    (cls a < cls b ∧ cmpN a b = -1) ∨ (cls b < cls a ∧ cmpN a b = 1) ∨ (cls a = cls b ∧ (cls b = 0 ∨ cls b = 1 ∨ cls b = 3 ∨ cls b = 4 ∨ cls b = 6) ∧ cmpN a b = 0) ∨
    (cls a = cls b ∧ (cls b = 2 ∨ cls b = 5) ∧ isNaN a = false ∧ isNaN b = false ∧ ((ikey a < ikey b ∧ cmpN a b = -1) ∨ (ikey b < ikey a ∧ cmpN a b = 1) ∨ (ikey a = ikey b ∧ cmpN a b = 0))) := by
  have h1 := cls_cases a ha
  have h2 := cls_cases b hb
  unfold cmpN
  rcases h1 with ⟨p1, p2, p3⟩ | ⟨p0, ⟨p1, p2, p3⟩ | ⟨p1, p2, p3, p4⟩ | ⟨p1, p2, p3⟩ | ⟨p1, p2, p3⟩ | ⟨p1, p2, p3, p4⟩ | ⟨p1, p2, p3⟩⟩ <;>
  rcases h2 with ⟨q1, q2, q3⟩ | ⟨q0, ⟨q1, q2, q3⟩ | ⟨q1, q2, q3, q4⟩ | ⟨q1, q2, q3⟩ | ⟨q1, q2, q3⟩ | ⟨q1, q2, q3, q4⟩ | ⟨q1, q2, q3⟩⟩
  all_goals
    rw [p1, q1]
    first
    | (left; exact ⟨by decide, if_pos (by omega)⟩)
    | (right; left; exact ⟨by decide, by rw [if_neg (by omega), if_pos (by omega)]⟩)
    | (right; right; left; exact ⟨rfl, by decide, by rw [if_neg (by omega), if_neg (by omega)]⟩)
    | (right; right; right
       refine ⟨rfl, by decide, p0, q0, ?_⟩
       rcases (show keyN a < keyN b ∨ keyN b < keyN a ∨ keyN a = keyN b by omega) with g | g | g
       · left; exact ⟨by omega, if_pos g⟩
       · right; left; exact ⟨by omega, by rw [if_neg (by omega), if_pos g]⟩
       · right; right; exact ⟨by omega, by rw [if_neg (by omega), if_neg (by omega)]⟩)
set_option maxHeartbeats 1000000 in
theorem rcmp_any (a b : Nat) (w : World) (ha : a < 18446744073709551616) (hb : b < 18446744073709551616) : Calls Try.prog 17 #[.float .f64 a, .float .f64 b] w fun e w' => e = .returned (.int .i64 (cmpN a b)) ∧ w = w' := by
  have hc := cmp_cases a b ha hb
  have fl := f_lt ha hb
  have fg := f_gt ha hb
  obtain ⟨x, hx⟩ : ∃ x, cls a = x := ⟨_, rfl⟩
  obtain ⟨y, hy⟩ : ∃ y, cls b = y := ⟨_, rfl⟩
  obtain ⟨c, hcc⟩ : ∃ c, cmpN a b = c := ⟨_, rfl⟩
  rw [hx, hy, hcc] at hc
  rw [hcc]
  have HX := Lib.hid hx; have HY := Lib.hid hy; clear hx hy hcc
  rcases hc with ⟨h, rfl⟩ | ⟨h, rfl⟩ | ⟨rfl, h, rfl⟩ | ⟨rfl, h, n1, n2, k⟩
  · clear fl fg
    go_enter Try.func17, Try.ntmps17
    go_wp2_with (first | (go_at_call 15; (have := HB0; clear this); refine (rcls_any _ _ hb).mono ?_; rintro e w1 ⟨rfl, rfl⟩; rw [HY.out]) | (go_at_call 15; refine (rcls_any _ _ ha).mono ?_; rintro e w1 ⟨rfl, rfl⟩; rw [HX.out]; have HB0 := trivial))
    go_ret
    exact ⟨rfl, rfl⟩
  · clear fl fg
    have d1 : decide (x < y) = false := by simp; omega
    go_enter Try.func17, Try.ntmps17
    go_wp2_with (first | (go_at_call 15; (have := HB0; clear this); refine (rcls_any _ _ hb).mono ?_; rintro e w1 ⟨rfl, rfl⟩; rw [HY.out]) | (go_at_call 15; refine (rcls_any _ _ ha).mono ?_; rintro e w1 ⟨rfl, rfl⟩; rw [HX.out]; have HB0 := trivial))
    go_ret
    exact ⟨rfl, rfl⟩
  · clear fl fg
    rcases h with rfl | rfl | rfl | rfl | rfl
    all_goals
      go_enter Try.func17, Try.ntmps17
      go_wp2_with (first | (go_at_call 15; (have := HB0; clear this); refine (rcls_any _ _ hb).mono ?_; rintro e w1 ⟨rfl, rfl⟩; rw [HY.out]) | (go_at_call 15; refine (rcls_any _ _ ha).mono ?_; rintro e w1 ⟨rfl, rfl⟩; rw [HX.out]; have HB0 := trivial))
      go_ret
      exact ⟨rfl, rfl⟩
  · rw [n1, n2] at fl fg
    simp only [Bool.not_false, Bool.true_and] at fl fg
    rcases h with rfl | rfl
    all_goals
      rcases k with ⟨k, rfl⟩ | ⟨k, rfl⟩ | ⟨k, rfl⟩
      · have l1 : decide (ikey a < ikey b) = true := by simpa using k
        rw [l1] at fl
        clear fg k l1 n1 n2
        go_enter Try.func17, Try.ntmps17
        go_wp2_with (first | (go_at_call 15; (have := HB0; clear this); refine (rcls_any _ _ hb).mono ?_; rintro e w1 ⟨rfl, rfl⟩; rw [HY.out]) | (go_at_call 15; refine (rcls_any _ _ ha).mono ?_; rintro e w1 ⟨rfl, rfl⟩; rw [HX.out]; have HB0 := trivial))
        go_ret
        exact ⟨rfl, rfl⟩
      · have l1 : decide (ikey a < ikey b) = false := by simp; omega
        have l2 : decide (ikey b < ikey a) = true := by simpa using k
        rw [l1] at fl
        rw [l2] at fg
        clear k l1 l2 n1 n2
        go_enter Try.func17, Try.ntmps17
        go_wp2_with (first | (go_at_call 15; (have := HB0; clear this); refine (rcls_any _ _ hb).mono ?_; rintro e w1 ⟨rfl, rfl⟩; rw [HY.out]) | (go_at_call 15; refine (rcls_any _ _ ha).mono ?_; rintro e w1 ⟨rfl, rfl⟩; rw [HX.out]; have HB0 := trivial))
        go_ret
        exact ⟨rfl, rfl⟩
      · have l1 : decide (ikey a < ikey b) = false := by simp; omega
        have l2 : decide (ikey b < ikey a) = false := by simp; omega
        rw [l1] at fl
        rw [l2] at fg
        clear k l1 l2 n1 n2
        go_enter Try.func17, Try.ntmps17
        go_wp2_with (first | (go_at_call 15; (have := HB0; clear this); refine (rcls_any _ _ hb).mono ?_; rintro e w1 ⟨rfl, rfl⟩; rw [HY.out]) | (go_at_call 15; refine (rcls_any _ _ ha).mono ?_; rintro e w1 ⟨rfl, rfl⟩; rw [HX.out]; have HB0 := trivial))
        go_ret
        exact ⟨rfl, rfl⟩
set_option maxRecDepth 100000 in
set_option maxHeartbeats 400000 in
theorem rbits_any (k : Nat) (w : World) (hk : k < 18446744073709551616) : Calls Try.prog 21 #[.int .u64 k] w fun e w' => e = .returned (.tuple #[.int .u64 (ofV k : Nat), .bool (ofOk k)]) ∧ w = w' := by
  have hf := run_frombits
  rcases (show k = 0 ∨ 0 < k by omega) with rfl | h0
  · have e1 : ofV 0 = 9221120237041090561 := rfl
    have e2 : ofOk 0 = true := rfl
    rw [e1, e2]
    go_enter Try.func21, Try.ntmps21
    go_wp2
    go_ret2
    exact ⟨rfl, rfl⟩
  · have hb := ofB_lt k hk
    have d0 : ((k : Int) == 0) = false := beq_eq_false_iff_ne.2 (by omega)
    have ev : ofV k = if isNaN (ofB k) then 0 else ofB k := by unfold ofV; rw [if_neg (by omega)]
    have eo : ofOk k = !isNaN (ofB k) := by unfold ofOk; rw [decide_eq_false (by omega)]; rfl
    rw [ev, eo]
    clear ev eo
    obtain ⟨n, hn⟩ : ∃ n, isNaN (ofB k) = n := ⟨_, rfl⟩
    have HN := Lib.hid hn
    rw [hn]
    by_cases h : 9223372036854775808 ≤ k
    · have e3 : ofB k = k - 9223372036854775808 := by unfold ofB; rw [if_pos h]
      have wr : IntKind.u64.wrap ((k : Int) - 9223372036854775808) = (ofB k : Nat) := by rw [wrap_u64, e3]; omega
      have dl : decide ((k : Int) < 9223372036854775808) = false := by simp; omega
      have z1 : (9223372036854775808 : Int) ≤ k := by omega
      have z2 : (k : Int) < 18446744073709551616 := by omega
      clear e3 hn h h0 hk
      generalize ofB k = c at *
      generalize (k : Int) = z at *
      cases n
      all_goals
        go_enter Try.func21, Try.ntmps21
        go_wp2_with (go_at_call 34; refine (none_any _ _ hb).mono ?_; rintro e w1 ⟨rfl, rfl⟩; rw [HN.out])
        go_ret2
        exact ⟨rfl, rfl⟩
    · have e3 : ofB k = 18446744073709551615 - k := by unfold ofB; rw [if_neg h]
      have wr : (18446744073709551615 : Int) - k = (ofB k : Nat) := by rw [e3]; omega
      have dl : decide ((k : Int) < 9223372036854775808) = true := by simp; omega
      have z1 : (0 : Int) ≤ k := by omega
      have z2 : (k : Int) < 9223372036854775808 := by omega
      clear e3 hn h h0 hk
      generalize ofB k = c at *
      generalize (k : Int) = z at *
      cases n
      all_goals
        go_enter Try.func21, Try.ntmps21
        go_wp2_with (go_at_call 34; refine (none_any _ _ hb).mono ?_; rintro e w1 ⟨rfl, rfl⟩; rw [HN.out])
        go_ret2
        exact ⟨rfl, rfl⟩
end Go.Proofs.Ytmnpmcfhmhkibaa
