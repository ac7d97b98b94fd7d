/- SpanDrifts: the document's drift, and the walk. -/
import Derived.Test.YtnljmjibjjjelaaSpanQ
import Derived.Test.YtnljmjibjjjelaaProdG
import Derived.Test.YtnljmjibjjjelaaClsR
set_option linter.unusedSimpArgs false
set_option linter.unusedVariables false
namespace Go.Proofs.Ytnljmjibjjjelaa
open Go.RowKit Mo
theorem rate_ref (b : Nat) (hb : b < 18446744073709551616) :
    (rateOk b = true ∧ (cls b = 3 ∨ cls b = 4)) ∨ (rateOk b = true ∧ cls b = 5 ∧ (FloatKind.f64.format.order b 4607182418800017408 == some Ordering.lt || FloatKind.f64.format.order b 4607182418800017408 == some Ordering.eq) = true) ∨
    (rateOk b = false ∧ (cls b = 0 ∨ cls b = 1 ∨ cls b = 2 ∨ cls b = 6)) ∨ (rateOk b = false ∧ cls b = 5 ∧ (FloatKind.f64.format.order b 4607182418800017408 == some Ordering.lt || FloatKind.f64.format.order b 4607182418800017408 == some Ordering.eq) = false) := by
  have e1 : isNaN 4607182418800017408 = false := by decide
  have e2 : ikey 4607182418800017408 = 4607182418800017408 := by decide
  rw [f_le hb (by decide), e1, e2]
  unfold rateOk cls ikey isNaN isNeg rung
  by_cases h : b < 9223372036854775808
  · have h2 : b % 9223372036854775808 = b := by omega
    rw [h2]
    have h3 : ¬ 9223372036854775808 ≤ b := by omega
    simp only [h3, decide_false, if_false, Bool.false_eq_true]
    rcases (show b = 0 ∨ (0 < b ∧ b ≤ 4607182418800017408) ∨ (4607182418800017408 < b ∧ b < 9218868437227405312) ∨ b = 9218868437227405312 ∨ 9218868437227405312 < b by omega) with g | ⟨g, g'⟩ | ⟨g, g'⟩ | g | g
    · subst g; left; decide
    · right; left
      rw [if_neg (by simp; omega), if_neg (by omega), if_neg (by omega)]
      simp; omega
    · right; right; right
      rw [if_neg (by simp; omega), if_neg (by omega), if_neg (by omega)]
      simp; omega
    · subst g; right; right; left; decide
    · right; right; left
      rw [if_pos (by simp; omega)]
      simp; omega
  · have h2 : b % 9223372036854775808 = b - 9223372036854775808 := by omega
    rw [h2]
    have h3 : 9223372036854775808 ≤ b := by omega
    simp only [h3, decide_true, if_true]
    rcases (show b = 9223372036854775808 ∨ 9223372036854775808 < b by omega) with g | g
    · subst g; left; decide
    · right; right; left
      have hr : (decide (b ≤ 4607182418800017408) || decide (b = 9223372036854775808)) = false := by simp; omega
      refine ⟨hr, ?_⟩
      rw [if_neg (show ¬ b - 9223372036854775808 = 0 by omega)]
      split
      · left; rfl
      · split
        · right; left; rfl
        · right; right; left; rfl
set_option maxHeartbeats 1000000 in
theorem rated_any (b : Nat) (w : World) (hb : b < 18446744073709551616) : Calls Try.prog 31 #[.float .f64 b] w fun e w' => e = .returned (.bool (rateOk b)) ∧ w = w' := by
  have hc := rate_ref b hb
  obtain ⟨c, hcc⟩ : ∃ c, cls b = c := ⟨_, rfl⟩
  rw [hcc] at hc
  have HC := Lib.hid hcc
  clear hcc
  rcases hc with ⟨k, h⟩ | ⟨k, h, l⟩ | ⟨k, h⟩ | ⟨k, h, l⟩
  · rw [k]; clear k
    rcases h with rfl | rfl
    all_goals
      go_enter Try.func31, Try.ntmps31
      go_wp2_with (go_at_call 42; refine (rcls_any _ _ hb).mono ?_; rintro e w1 ⟨rfl, rfl⟩; rw [HC.out])
      go_ret
      exact ⟨rfl, rfl⟩
  · rw [k]; clear k
    subst h
    go_enter Try.func31, Try.ntmps31
    go_wp2_with (go_at_call 42; refine (rcls_any _ _ hb).mono ?_; rintro e w1 ⟨rfl, rfl⟩; rw [HC.out])
    go_ret
    exact ⟨ret_bool (by first | rfl | (simp; done)), rfl⟩
  · rw [k]; clear k
    rcases h with rfl | rfl | rfl | rfl
    all_goals
      go_enter Try.func31, Try.ntmps31
      go_wp2_with (go_at_call 42; refine (rcls_any _ _ hb).mono ?_; rintro e w1 ⟨rfl, rfl⟩; rw [HC.out])
      go_ret
      exact ⟨rfl, rfl⟩
  · rw [k]; clear k
    subst h
    go_enter Try.func31, Try.ntmps31
    go_wp2_with (go_at_call 42; refine (rcls_any _ _ hb).mono ?_; rintro e w1 ⟨rfl, rfl⟩; rw [HC.out])
    go_ret
    exact ⟨ret_bool (by first | rfl | (simp; done)), rfl⟩
set_option maxHeartbeats 1000000 in
theorem rdrift_below (lo hi el : Int) (b : Nat) (A B E : Int) (w : World) (h : DriftIs lo hi el b A B E) (hb9 : b < 18446744073709551616) :
    Calls Try.prog 19 #[.agg #[.int .i64 lo, .int .i64 hi], .int .i64 el, .float .f64 b] w fun e w' => e = .returned (.tuple #[.agg #[.int .i64 A, .int .i64 B], .int .i64 E]) ∧ Below w.heap.size w w' := by
  rcases h with ⟨hs, rfl, rfl, rfl⟩ | ⟨hs, h, rfl, rfl, rfl⟩ | ⟨hs, h, rfl, rfl, rfl⟩ | ⟨hs, h1, h2, hr, rfl, rfl, rfl⟩ | ⟨hs, h1, h2, hr, hA, hB, rfl⟩
  · have HS := Lib.hid hs; clear hs
    go_enter Try.func19, Try.ntmps19
    go_wp2_with (first | (go_at_call 17; refine (is_any _ _ _).mono ?_; rintro e w1 ⟨rfl, rfl⟩; rw [HS.out]) | (go_at_call 28; go_in))
    refine bodyPost_ret (v := .tuple #[.agg #[.int .i64 0, .int .i64 0], .int .i64 50]) (by simp [results, Try.results19, go_sem]) rfl ⟨?_, ?_⟩
    · rfl
    · repeat (first | exact Below.refl _ _ | refine below_alloc_ ?_ _ | refine Below.drew ?_)
  · have HS := Lib.hid hs; clear hs
    go_enter Try.func19, Try.ntmps19
    go_wp2_with (first | (go_at_call 17; refine (is_any _ _ _).mono ?_; rintro e w1 ⟨rfl, rfl⟩; rw [HS.out]) | (go_at_call 28; go_in))
    refine bodyPost_ret (v := .tuple #[.agg #[.int .i64 0, .int .i64 0], .int .i64 52]) (by simp [results, Try.results19, go_sem]) rfl ⟨?_, ?_⟩
    · rfl
    · repeat (first | exact Below.refl _ _ | refine below_alloc_ ?_ _ | refine Below.drew ?_)
  · have HS := Lib.hid hs; clear hs
    have hd : decide (el ≤ 1125899906842624) = false := by simp; omega
    go_enter Try.func19, Try.ntmps19
    go_wp2_with (first | (go_at_call 17; refine (is_any _ _ _).mono ?_; rintro e w1 ⟨rfl, rfl⟩; rw [HS.out]) | (go_at_call 28; go_in))
    refine bodyPost_ret (v := .tuple #[.agg #[.int .i64 0, .int .i64 0], .int .i64 52]) (by simp [results, Try.results19, go_sem]) rfl ⟨?_, ?_⟩
    · rfl
    · repeat (first | exact Below.refl _ _ | refine below_alloc_ ?_ _ | refine Below.drew ?_)
  · have HS := Lib.hid hs; have HR := Lib.hid hr; clear hs hr
    go_enter Try.func19, Try.ntmps19
    go_wp2_with (first | (go_at_call 17; refine (is_any _ _ _).mono ?_; rintro e w1 ⟨rfl, rfl⟩; rw [HS.out]) | (go_at_call 28; go_in) | (go_at_call 31; refine (rated_any _ _ hb9).mono ?_; rintro e w1 ⟨rfl, rfl⟩; rw [HR.out]))
    refine bodyPost_ret (v := .tuple #[.agg #[.int .i64 0, .int .i64 0], .int .i64 51]) (by simp [results, Try.results19, go_sem]) rfl ⟨?_, ?_⟩
    · rfl
    · repeat (first | exact Below.refl _ _ | refine below_alloc_ ?_ _ | refine Below.drew ?_)
  · obtain ⟨_, _, z1, z2⟩ := drift_num el b hr h1 h2
    have hle := drift_le el b hr
    obtain ⟨d, hd0⟩ : ∃ d : Int, (driftBy el b : Int) = d := ⟨_, rfl⟩
    rw [hd0] at z2 hA hB
    have hd1 : 0 ≤ d := by omega
    have hd2 : d ≤ 1125899906842624 := by omega
    have HZ1 := Lib.hid z1
    have HZ2 := Lib.hid z2
    have HW := Lib.hid (show WidIs lo hi d A B 0 from .inr (.inr (.inr ⟨hs, hd1, hd2, hA, hB, rfl⟩)))
    have HS := Lib.hid hs; have HR := Lib.hid hr
    have TA : Hid (Blk ((w.alloc (.cells #[.int .i64 lo, .int .i64 hi] 23)).alloc (.cells #[.int .i64 0, .int .i64 0] 23)) w.heap.size 23 #[.int .i64 lo, .int .i64 hi]) := Lib.hid ((Blk.new w _ _).alloc _)
    have TZ : Hid (Blk ((w.alloc (.cells #[.int .i64 lo, .int .i64 hi] 23)).alloc (.cells #[.int .i64 0, .int .i64 0] 23)) (w.heap.size + 1) 23 #[.int .i64 0, .int .i64 0]) := Lib.hid (Blk.new' (by simp))
    have HB : Hid (Below w.heap.size w w) := Lib.hid (Below.refl _ _)
    clear hr z1 z2 hle hd0 hA hB hs
    go_enter Try.func19, Try.ntmps19
    go_wp2_with (first
      | (go_at_call 17; refine (is_any _ _ _).mono ?_; rintro e w1 ⟨rfl, rfl⟩; rw [HS.out])
      | (go_at_call 28; go_in)
      | (go_at_call 31; refine (rated_any _ _ hb9).mono ?_; rintro e w1 ⟨rfl, rfl⟩; rw [HR.out])
      | (go_at_call 32; refine (rproduct_any _ _ _ _ (by omega) (by omega) hb9).mono ?_; rintro e w5 ⟨rfl, hb⟩; rw [HZ1.out, HZ2.out]; replace TA := Lib.hid (blk_pass TA.out (by repeat (first | exact Below.refl _ _ | refine below_alloc_ ?_ _ | refine Below.drew ?_)) hb); (try clear q1 q2 q3); obtain ⟨⟨q1, q2⟩, q3⟩ := blk_facts TA.out; replace TZ := Lib.hid (blk_pass TZ.out (by repeat (first | exact Below.refl _ _ | refine below_alloc_ ?_ _ | refine Below.drew ?_)) hb); (try clear q4 q5 q6); obtain ⟨⟨q4, q5⟩, q6⟩ := blk_facts TZ.out; have f0 := TZ.out.frozen 0; have f1 := TZ.out.frozen 1; replace HB := Lib.hid (below_then (w := w) (by repeat (first | exact HB.out | refine below_alloc_ ?_ _ | exact Below.refl _ _)) hb); clear hb)
      | (go_at_call 13; refine (rwiden_below lo hi d _ _ _ _ HW.out).mono ?_; rintro e w5 ⟨rfl, hb⟩; replace TA := Lib.hid (blk_pass TA.out (by repeat (first | exact Below.refl _ _ | refine below_alloc_ ?_ _ | refine Below.drew ?_)) hb); (try clear q1 q2 q3); obtain ⟨⟨q1, q2⟩, q3⟩ := blk_facts TA.out; replace TZ := Lib.hid (blk_pass TZ.out (by repeat (first | exact Below.refl _ _ | refine below_alloc_ ?_ _ | refine Below.drew ?_)) hb); (try clear q4 q5 q6); obtain ⟨⟨q4, q5⟩, q6⟩ := blk_facts TZ.out; clear f0 f1; have f0 := TZ.out.frozen 0; have f1 := TZ.out.frozen 1; replace HB := Lib.hid (below_then (w := w) (by repeat (first | exact HB.out | refine below_alloc_ ?_ _ | exact Below.refl _ _)) hb); clear hb))
    refine bodyPost_ret (v := .tuple #[.agg #[.int .i64 A, .int .i64 B], .int .i64 0]) (via_blk (g := w.heap.size + 1) (T := 23) (cs := #[.int .i64 A, .int .i64 B]) (by repeat (first | exact Hid.out (by assumption) | refine Blk.alloc ?_ _ | refine Blk.far ?_ (Nat.ne_of_lt (Nat.lt_succ_self _)) _ | refine Blk.far ?_ (Nat.ne_of_gt (Nat.lt_succ_self _)) _ | exact blk_set2 (Hid.out (by assumption)))) (fun W' hB => by obtain ⟨c0, c1⟩ := hB.c2; simp [results, Try.results19, go_sem, c0, c1])) rfl ⟨?_, ?_⟩
    · rfl
    · exact (HB.out.setCell (Nat.le_succ _) _).setCell (Nat.le_succ _) _
set_option maxHeartbeats 1000000 in
theorem spanDrifts_walk (w : World) (a b : Int) (wa : (Lit.int .i64 a).wf = true) (wb : (Lit.int .i64 b).wf = true) (el : Int) (we : (Lit.int .i64 el).wf = true) (r : Nat) (wr : (Lit.float .f64 r).wf = true) :
    Calls Try.prog 4 #[.agg #[.int .i64 a, .int .i64 b], .int .i64 el, .float .f64 r] w fun e w' => e = .returned (.bool true) ∧ Below w.heap.size w w' := by
  have hrb := f64_wf wr
  obtain ⟨A, B, E, hM⟩ := drift_of a b el r
  have HD := Lib.hid hM
  have TA : Hid (Blk (w.alloc (.cells #[.int .i64 a, .int .i64 b] 23)) w.heap.size 23 #[.int .i64 a, .int .i64 b]) := Lib.hid (Blk.new w _ _)
  have HB : Hid (Below w.heap.size w w) := Lib.hid (Below.refl _ _)
  clear wa wb we wr hM
  go_enter Try.func4, Try.ntmps4
  go_wp2_with (first
    | (go_at_call 18; refine (drift_below _ _ _ _ _ _ _ _ HD.out hrb).mono ?_; rintro e wA ⟨rfl, hb⟩; (replace TA := Lib.hid (blk_pass TA.out (by repeat (first | exact Below.refl _ _ | refine below_alloc_ ?_ _ | refine Below.drew ?_)) hb); (try clear q1 q2 q3); obtain ⟨⟨q1, q2⟩, q3⟩ := blk_facts TA.out; have TC : Hid (Blk (wA.alloc (.cells #[.int .i64 A, .int .i64 B] 23)) wA.heap.size 23 #[.int .i64 A, .int .i64 B]) := Lib.hid (Blk.new wA _ _); replace HB := Lib.hid (below_then (w := w) (by repeat (first | exact HB.out | refine below_alloc_ ?_ _ | exact Below.refl _ _)) hb); clear hb))
    | (go_at_call 19; refine (rdrift_below _ _ _ _ _ _ _ _ HD.out hrb).mono ?_; rintro e wB ⟨rfl, hb⟩; (replace TA := Lib.hid (blk_pass TA.out (by repeat (first | exact Below.refl _ _ | refine below_alloc_ ?_ _ | refine Below.drew ?_)) hb); (try clear q1 q2 q3); obtain ⟨⟨q1, q2⟩, q3⟩ := blk_facts TA.out; replace TC := Lib.hid (blk_pass TC.out (by repeat (first | exact Below.refl _ _ | refine below_alloc_ ?_ _ | refine Below.drew ?_)) hb); (try clear q4 q5 q6); obtain ⟨⟨q4, q5⟩, q6⟩ := blk_facts TC.out; have TD : Hid (Blk (wB.alloc (.cells #[.int .i64 A, .int .i64 B] 23)) wB.heap.size 23 #[.int .i64 A, .int .i64 B]) := Lib.hid (Blk.new wB _ _); replace HB := Lib.hid (below_then (w := w) (by repeat (first | exact HB.out | refine below_alloc_ ?_ _ | exact Below.refl _ _)) hb); clear hb))
    | (go_at_call 15; refine (awake05_any _).mono ?_; rintro e w5 ⟨rfl, hb⟩; (replace TA := Lib.hid (blk_pass TA.out (by repeat (first | exact Below.refl _ _ | refine below_alloc_ ?_ _ | refine Below.drew ?_)) hb); (try clear q1 q2 q3); obtain ⟨⟨q1, q2⟩, q3⟩ := blk_facts TA.out; replace TC := Lib.hid (blk_pass TC.out (by repeat (first | exact Below.refl _ _ | refine below_alloc_ ?_ _ | refine Below.drew ?_)) hb); (try clear q4 q5 q6); obtain ⟨⟨q4, q5⟩, q6⟩ := blk_facts TC.out; replace TD := Lib.hid (blk_pass TD.out (by repeat (first | exact Below.refl _ _ | refine below_alloc_ ?_ _ | refine Below.drew ?_)) hb); (try clear q7 q8 q9); obtain ⟨⟨q7, q8⟩, q9⟩ := blk_facts TD.out; replace HB := Lib.hid (below_then (w := w) (by repeat (first | exact HB.out | refine below_alloc_ ?_ _ | exact Below.refl _ _)) hb); clear hb)))
  go_ret
  exact ⟨rfl, HB.out⟩
end Go.Proofs.Ytnljmjibjjjelaa
