/- SpanHolds: the walk. -/
import Derived.Test.YtnljmjibjjjelaaSpanR
set_option linter.unusedSimpArgs false
set_option linter.unusedVariables false
namespace Go.Proofs.Ytnljmjibjjjelaa
open Go.RowKit Mo
theorem holds_cases (t by_ u A B E : Int) (h : WidIs t t by_ A B E) :
    (E = 50) ∨ (E = 52) ∨ (E = 0 ∧ (u < 0 ∨ (0 ≤ u ∧ 1125899906842624 < u)) ∧ hasS A B u = false) ∨
    (E = 0 ∧ 0 ≤ t ∧ t ≤ 1125899906842624 ∧ 0 ≤ u ∧ u ≤ 1125899906842624 ∧ hasS A B t = true ∧ ((u < t ∧ t - u ≤ by_ ∧ hasS A B u = true) ∨ (u < t ∧ by_ < t - u ∧ hasS A B u = false) ∨ (t ≤ u ∧ u - t ≤ by_ ∧ hasS A B u = true) ∨ (t ≤ u ∧ by_ < u - t ∧ hasS A B u = false))) := by
  rcases h with ⟨hs, rfl, rfl, rfl⟩ | ⟨hs, h, rfl, rfl, rfl⟩ | ⟨hs, h, rfl, rfl, rfl⟩ | ⟨hs, h1, h2, hA, hB, rfl⟩
  · exact .inl rfl
  · exact .inr (.inl rfl)
  · exact .inr (.inl rfl)
  · have g := isS_iff.1 hs
    have hs' : isS A B = true := isS_iff.2 (by omega)
    right; right
    rcases (show (u < 0 ∨ (0 ≤ u ∧ 1125899906842624 < u)) ∨ (0 ≤ u ∧ u ≤ 1125899906842624) by omega) with k | ⟨k1, k2⟩
    · left; refine ⟨rfl, k, ?_⟩; simp only [hasS, hs', Bool.true_and, Bool.and_eq_false_iff, decide_eq_false_iff_not]; omega
    · right
      refine ⟨rfl, by omega, by omega, k1, k2, ?_, ?_⟩
      · simp only [hasS, hs', Bool.true_and, Bool.and_eq_true, decide_eq_true_eq]; omega
      · simp only [hasS, hs', Bool.true_and, Bool.and_eq_true, decide_eq_true_eq, Bool.and_eq_false_iff, decide_eq_false_iff_not]; omega
set_option maxHeartbeats 1000000 in
theorem spanHolds_walk (w : World) (t : Int) (wt : (Lit.int .i64 t).wf = true) (by_ : Int) (wy : (Lit.int .i64 by_).wf = true) (u : Int) (wu : (Lit.int .i64 u).wf = true) :
    Calls Try.prog 7 #[.int .i64 t, .int .i64 by_, .int .i64 u] w fun e w' => e = .returned (.bool true) ∧ Below w.heap.size w w' := by
  obtain ⟨A, B, E, hM⟩ := wid_of t t by_
  have HWID := Lib.hid hM
  have HB : Hid (Below w.heap.size w w) := Lib.hid (Below.refl _ _)
  clear wt wy wu
  rcases holds_cases t by_ u A B E hM with rfl | rfl | ⟨rfl, i, h⟩ | ⟨rfl, g1, g2, g3, g4, i, j⟩
  · clear hM
    go_enter Try.func7, Try.ntmps7
    go_wp2_with (first
      | (go_at_call 14; refine (around_below _ _ _ _ _ _ HWID.out).mono ?_; rintro e w5 ⟨rfl, hb⟩; (have TC : Hid (Blk (w5.alloc (.cells #[.int .i64 A, .int .i64 B] 23)) w5.heap.size 23 #[.int .i64 A, .int .i64 B]) := Lib.hid (Blk.new w5 _ _); replace HB := Lib.hid (below_then (w := w) (by repeat (first | exact HB.out | refine below_alloc_ ?_ _ | exact Below.refl _ _)) hb); clear hb))
      | (go_at_call 15; refine (awake05_any _).mono ?_; rintro e w5 ⟨rfl, hb⟩; (replace TC := Lib.hid (blk_pass TC.out (by repeat (first | exact Below.refl _ _ | refine below_alloc_ ?_ _ | refine Below.drew ?_)) hb); (try clear q7 q8 q9); obtain ⟨⟨q7, q8⟩, q9⟩ := blk_facts TC.out; replace HB := Lib.hid (below_then (w := w) (by repeat (first | exact HB.out | refine below_alloc_ ?_ _ | exact Below.refl _ _)) hb); clear hb)))
    go_ret
    exact ⟨rfl, HB.out⟩
  · clear hM
    go_enter Try.func7, Try.ntmps7
    go_wp2_with (first
      | (go_at_call 14; refine (around_below _ _ _ _ _ _ HWID.out).mono ?_; rintro e w5 ⟨rfl, hb⟩; (have TC : Hid (Blk (w5.alloc (.cells #[.int .i64 A, .int .i64 B] 23)) w5.heap.size 23 #[.int .i64 A, .int .i64 B]) := Lib.hid (Blk.new w5 _ _); replace HB := Lib.hid (below_then (w := w) (by repeat (first | exact HB.out | refine below_alloc_ ?_ _ | exact Below.refl _ _)) hb); clear hb))
      | (go_at_call 15; refine (awake05_any _).mono ?_; rintro e w5 ⟨rfl, hb⟩; (replace TC := Lib.hid (blk_pass TC.out (by repeat (first | exact Below.refl _ _ | refine below_alloc_ ?_ _ | refine Below.drew ?_)) hb); (try clear q7 q8 q9); obtain ⟨⟨q7, q8⟩, q9⟩ := blk_facts TC.out; replace HB := Lib.hid (below_then (w := w) (by repeat (first | exact HB.out | refine below_alloc_ ?_ _ | exact Below.refl _ _)) hb); clear hb)))
    go_ret
    exact ⟨rfl, HB.out⟩
  · clear hM
    have HH := Lib.hid h; clear h
    rcases i with i | ⟨i, j⟩
    all_goals
      go_enter Try.func7, Try.ntmps7
      go_wp2_with (first
        | (go_at_call 14; refine (around_below _ _ _ _ _ _ HWID.out).mono ?_; rintro e w5 ⟨rfl, hb⟩; (have TC : Hid (Blk (w5.alloc (.cells #[.int .i64 A, .int .i64 B] 23)) w5.heap.size 23 #[.int .i64 A, .int .i64 B]) := Lib.hid (Blk.new w5 _ _); replace HB := Lib.hid (below_then (w := w) (by repeat (first | exact HB.out | refine below_alloc_ ?_ _ | exact Below.refl _ _)) hb); clear hb))
        | (go_at_call 15; refine (awake05_any _).mono ?_; rintro e w5 ⟨rfl, hb⟩; (replace TC := Lib.hid (blk_pass TC.out (by repeat (first | exact Below.refl _ _ | refine below_alloc_ ?_ _ | refine Below.drew ?_)) hb); (try clear q7 q8 q9); obtain ⟨⟨q7, q8⟩, q9⟩ := blk_facts TC.out; replace HB := Lib.hid (below_then (w := w) (by repeat (first | exact HB.out | refine below_alloc_ ?_ _ | exact Below.refl _ _)) hb); clear hb))
        | (go_at_call 22; refine (has_below _ _ _ _).mono ?_; rintro e w5 ⟨rfl, hb⟩; rw [HH.out]; (replace TC := Lib.hid (blk_pass TC.out (by repeat (first | exact Below.refl _ _ | refine below_alloc_ ?_ _ | refine Below.drew ?_)) hb); (try clear q7 q8 q9); obtain ⟨⟨q7, q8⟩, q9⟩ := blk_facts TC.out; replace HB := Lib.hid (below_then (w := w) (by repeat (first | exact HB.out | refine below_alloc_ ?_ _ | exact Below.refl _ _)) hb); clear hb)))
      go_ret
      exact ⟨rfl, HB.out⟩
  · clear hM
    have HI := Lib.hid i; clear i
    rcases j with ⟨j, k, h⟩ | ⟨j, k, h⟩ | ⟨j, k, h⟩ | ⟨j, k, h⟩
    all_goals
      have HH := Lib.hid h; clear h
      first | (have hd : decide (t - u ≤ by_) = false := by simp; omega) | (have hd : decide (u - t ≤ by_) = false := by simp; omega) | skip
      go_enter Try.func7, Try.ntmps7
      go_wp2_with (first
        | (go_at_call 14; refine (around_below _ _ _ _ _ _ HWID.out).mono ?_; rintro e w5 ⟨rfl, hb⟩; (have TC : Hid (Blk (w5.alloc (.cells #[.int .i64 A, .int .i64 B] 23)) w5.heap.size 23 #[.int .i64 A, .int .i64 B]) := Lib.hid (Blk.new w5 _ _); replace HB := Lib.hid (below_then (w := w) (by repeat (first | exact HB.out | refine below_alloc_ ?_ _ | exact Below.refl _ _)) hb); clear hb))
        | (go_at_call 15; refine (awake05_any _).mono ?_; rintro e w5 ⟨rfl, hb⟩; (replace TC := Lib.hid (blk_pass TC.out (by repeat (first | exact Below.refl _ _ | refine below_alloc_ ?_ _ | refine Below.drew ?_)) hb); (try clear q7 q8 q9); obtain ⟨⟨q7, q8⟩, q9⟩ := blk_facts TC.out; replace HB := Lib.hid (below_then (w := w) (by repeat (first | exact HB.out | refine below_alloc_ ?_ _ | exact Below.refl _ _)) hb); clear hb))
        | (go_at_call 22; refine (has_below _ _ _ _).mono ?_; rintro e w5 ⟨rfl, hb⟩; (first | rw [HH.out] | rw [HI.out]); (replace TC := Lib.hid (blk_pass TC.out (by repeat (first | exact Below.refl _ _ | refine below_alloc_ ?_ _ | refine Below.drew ?_)) hb); (try clear q7 q8 q9); obtain ⟨⟨q7, q8⟩, q9⟩ := blk_facts TC.out; replace HB := Lib.hid (below_then (w := w) (by repeat (first | exact HB.out | refine below_alloc_ ?_ _ | exact Below.refl _ _)) hb); clear hb)))
      go_ret
      refine ⟨?_, HB.out⟩
      first | rfl | (apply ret_bool; simp; done) | (apply ret_bool; simp; omega)
end Go.Proofs.Ytnljmjibjjjelaa
