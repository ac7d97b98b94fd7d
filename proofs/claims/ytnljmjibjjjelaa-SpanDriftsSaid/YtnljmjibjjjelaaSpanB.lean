/- Contracts of the span package's functions: wider, around. -/
import Derived.Test.YtnljmjibjjjelaaSpanA
set_option linter.unusedSimpArgs false
set_option linter.unusedVariables false
namespace Go.Proofs.Ytnljmjibjjjelaa
open Go.RowKit Mo
/-- what a span with more at both ends is, or why there is none -/
def WidIs (lo hi by_ A B E : Int) : Prop :=
  (isS lo hi = false ∧ A = 0 ∧ B = 0 ∧ E = 50) ∨ (isS lo hi = true ∧ by_ < 0 ∧ A = 0 ∧ B = 0 ∧ E = 52) ∨ (isS lo hi = true ∧ 1125899906842624 < by_ ∧ A = 0 ∧ B = 0 ∧ E = 52) ∨
  (isS lo hi = true ∧ 0 ≤ by_ ∧ by_ ≤ 1125899906842624 ∧ A = max (lo - by_) 0 ∧ B = min (hi + by_) 1125899906842624 ∧ E = 0)
set_option maxHeartbeats 800000 in
theorem widen_any (lo hi by_ A B E : Int) (w : World) (h : WidIs lo hi by_ A B E) :
    Calls Try.prog 12 #[.agg #[.int .i64 lo, .int .i64 hi], .int .i64 by_] w fun e w' => e = .returned (.tuple #[.agg #[.int .i64 A, .int .i64 B], .int .i64 E]) ∧
      w' = ((w.alloc (.cells #[.int .i64 lo, .int .i64 hi] 23)).alloc (.cells #[.int .i64 A, .int .i64 B] 23)).alloc (.cells #[.int .i64 lo, .int .i64 hi] 23) := by
  unfold WidIs at h
  generalize hs : isS lo hi = s at h
  have HS := Lib.hid hs
  rcases h with ⟨rfl, rfl, rfl, rfl⟩ | ⟨rfl, h, rfl, rfl, rfl⟩ | ⟨rfl, h, rfl, rfl, rfl⟩ | ⟨rfl, h1, h2, hA, hB, rfl⟩
  · clear hs
    go_enter Try.func12, Try.ntmps12
    go_wp2_with (first | (go_at_call 16; refine (check_any _ _ _).mono ?_; rintro e w1 ⟨rfl, rfl⟩; rw [HS.out]) | (go_at_call 27; go_in))
    refine bodyPost_ret (v := .tuple #[.agg #[.int .i64 0, .int .i64 0], .int .i64 50]) (by simp [results, Try.results12, go_sem]) rfl ⟨?_, ?_⟩
    · rfl
    · rfl
  · clear hs
    go_enter Try.func12, Try.ntmps12
    go_wp2_with (first | (go_at_call 16; refine (check_any _ _ _).mono ?_; rintro e w1 ⟨rfl, rfl⟩; rw [HS.out]) | (go_at_call 27; go_in))
    refine bodyPost_ret (v := .tuple #[.agg #[.int .i64 0, .int .i64 0], .int .i64 52]) (by simp [results, Try.results12, go_sem]) rfl ⟨?_, ?_⟩
    · rfl
    · rfl
  · clear hs
    have hd : decide (by_ ≤ 1125899906842624) = false := by simp; omega
    go_enter Try.func12, Try.ntmps12
    go_wp2_with (first | (go_at_call 16; refine (check_any _ _ _).mono ?_; rintro e w1 ⟨rfl, rfl⟩; rw [HS.out]) | (go_at_call 27; go_in))
    refine bodyPost_ret (v := .tuple #[.agg #[.int .i64 0, .int .i64 0], .int .i64 52]) (by simp [results, Try.results12, go_sem]) rfl ⟨?_, ?_⟩
    · rfl
    · rfl
  · obtain ⟨g1, g2, g3⟩ := isS_iff.1 hs
    clear hs
    have hA' := hA.symm; have hB' := hB.symm; clear hA hB
    go_enter Try.func12, Try.ntmps12
    go_wp2_with (first | (go_at_call 16; refine (check_any _ _ _).mono ?_; rintro e w1 ⟨rfl, rfl⟩; rw [HS.out]) | (go_at_call 27; go_in))
    refine bodyPost_ret (v := .tuple #[.agg #[.int .i64 A, .int .i64 B], .int .i64 0]) (by simp [results, Try.results12, go_sem]) rfl ⟨?_, ?_⟩
    · rfl
    · rfl
theorem wid_of (lo hi by_ : Int) : ∃ A B E, WidIs lo hi by_ A B E := by
  unfold WidIs
  cases isS lo hi
  · exact ⟨_, _, _, .inl ⟨rfl, rfl, rfl, rfl⟩⟩
  · rcases (show by_ < 0 ∨ 1125899906842624 < by_ ∨ (0 ≤ by_ ∧ by_ ≤ 1125899906842624) by omega) with h | h | ⟨h1, h2⟩
    · exact ⟨_, _, _, .inr (.inl ⟨rfl, h, rfl, rfl, rfl⟩)⟩
    · exact ⟨_, _, _, .inr (.inr (.inl ⟨rfl, h, rfl, rfl, rfl⟩))⟩
    · exact ⟨_, _, _, .inr (.inr (.inr ⟨rfl, h1, h2, rfl, rfl, rfl⟩))⟩
set_option maxHeartbeats 800000 in
theorem rwiden_bad (lo hi by_ E : Int) (w : World) (h : isS lo hi = false ∧ E = 50 ∨ isS lo hi = true ∧ by_ < 0 ∧ E = 52 ∨ isS lo hi = true ∧ 1125899906842624 < by_ ∧ E = 52) :
    Calls Try.prog 13 #[.agg #[.int .i64 lo, .int .i64 hi], .int .i64 by_] w fun e w' => e = .returned (.tuple #[.agg #[.int .i64 0, .int .i64 0], .int .i64 E]) ∧
      w' = ((w.alloc (.cells #[.int .i64 lo, .int .i64 hi] 23)).alloc (.cells #[.int .i64 0, .int .i64 0] 23)).alloc (.cells #[.int .i64 lo, .int .i64 hi] 23) := by
  generalize hs : isS lo hi = s at h
  have HS := Lib.hid hs; clear hs
  rcases h with ⟨rfl, rfl⟩ | ⟨rfl, h, rfl⟩ | ⟨rfl, h, rfl⟩
  · go_enter Try.func13, Try.ntmps13
    go_wp2_with (first | (go_at_call 17; refine (is_any _ _ _).mono ?_; rintro e w1 ⟨rfl, rfl⟩; rw [HS.out]) | (go_at_call 28; go_in))
    refine bodyPost_ret (v := .tuple #[.agg #[.int .i64 0, .int .i64 0], .int .i64 50]) (by simp [results, Try.results13, go_sem]) rfl ⟨?_, ?_⟩
    · rfl
    · rfl
  · go_enter Try.func13, Try.ntmps13
    go_wp2_with (first | (go_at_call 17; refine (is_any _ _ _).mono ?_; rintro e w1 ⟨rfl, rfl⟩; rw [HS.out]) | (go_at_call 28; go_in))
    refine bodyPost_ret (v := .tuple #[.agg #[.int .i64 0, .int .i64 0], .int .i64 52]) (by simp [results, Try.results13, go_sem]) rfl ⟨?_, ?_⟩
    · rfl
    · rfl
  · have hd : decide (by_ ≤ 1125899906842624) = false := by simp; omega
    go_enter Try.func13, Try.ntmps13
    go_wp2_with (first | (go_at_call 17; refine (is_any _ _ _).mono ?_; rintro e w1 ⟨rfl, rfl⟩; rw [HS.out]) | (go_at_call 28; go_in))
    refine bodyPost_ret (v := .tuple #[.agg #[.int .i64 0, .int .i64 0], .int .i64 52]) (by simp [results, Try.results13, go_sem]) rfl ⟨?_, ?_⟩
    · rfl
    · rfl
set_option maxHeartbeats 800000 in
theorem rwiden_ok (lo hi by_ A B : Int) (w : World) (hs : isS lo hi = true) (h1 : 0 ≤ by_) (h2 : by_ ≤ 1125899906842624) (hA : A = max (lo - by_) 0) (hB : B = min (hi + by_) 1125899906842624) :
    Calls Try.prog 13 #[.agg #[.int .i64 lo, .int .i64 hi], .int .i64 by_] w fun e w' => e = .returned (.tuple #[.agg #[.int .i64 A, .int .i64 B], .int .i64 0]) ∧
      w' = (((w.alloc (.cells #[.int .i64 lo, .int .i64 hi] 23)).alloc (.cells #[.int .i64 A, .int .i64 B] 23)).alloc (.cells #[.int .i64 lo, .int .i64 hi] 23)).alloc (.cells #[.int .i64 A, .int .i64 B] 23) := by
  have HS := Lib.hid hs
  obtain ⟨g1, g2, g3⟩ := isS_iff.1 hs
  clear hs
  rcases (show lo ≤ by_ ∨ by_ < lo by omega) with h3 | h3
  all_goals rcases (show by_ ≤ 1125899906842624 - hi ∨ 1125899906842624 - hi < by_ by omega) with h4 | h4
  · obtain rfl : A = 0 := by omega
    obtain rfl : B = hi + by_ := by omega
    clear hA hB
    go_enter Try.func13, Try.ntmps13
    go_wp2_with (first | (go_at_call 17; refine (is_any _ _ _).mono ?_; rintro e w1 ⟨rfl, rfl⟩; rw [HS.out]) | (go_at_call 28; go_in))
    refine bodyPost_ret (v := .tuple #[.agg #[.int .i64 0, .int .i64 (hi + by_)], .int .i64 0]) (by simp [results, Try.results13, go_sem]) rfl ⟨?_, ?_⟩
    · rfl
    · rfl
  · obtain rfl : A = 0 := by omega
    obtain rfl : B = 1125899906842624 := by omega
    clear hA hB
    go_enter Try.func13, Try.ntmps13
    go_wp2_with (first | (go_at_call 17; refine (is_any _ _ _).mono ?_; rintro e w1 ⟨rfl, rfl⟩; rw [HS.out]) | (go_at_call 28; go_in))
    refine bodyPost_ret (v := .tuple #[.agg #[.int .i64 0, .int .i64 1125899906842624], .int .i64 0]) (by simp [results, Try.results13, go_sem]) rfl ⟨?_, ?_⟩
    · rfl
    · rfl
  · obtain rfl : A = lo - by_ := by omega
    obtain rfl : B = hi + by_ := by omega
    clear hA hB
    go_enter Try.func13, Try.ntmps13
    go_wp2_with (first | (go_at_call 17; refine (is_any _ _ _).mono ?_; rintro e w1 ⟨rfl, rfl⟩; rw [HS.out]) | (go_at_call 28; go_in))
    refine bodyPost_ret (v := .tuple #[.agg #[.int .i64 (lo - by_), .int .i64 (hi + by_)], .int .i64 0]) (by simp [results, Try.results13, go_sem]) rfl ⟨?_, ?_⟩
    · rfl
    · rfl
  · obtain rfl : A = lo - by_ := by omega
    obtain rfl : B = 1125899906842624 := by omega
    clear hA hB
    go_enter Try.func13, Try.ntmps13
    go_wp2_with (first | (go_at_call 17; refine (is_any _ _ _).mono ?_; rintro e w1 ⟨rfl, rfl⟩; rw [HS.out]) | (go_at_call 28; go_in))
    refine bodyPost_ret (v := .tuple #[.agg #[.int .i64 (lo - by_), .int .i64 1125899906842624], .int .i64 0]) (by simp [results, Try.results13, go_sem]) rfl ⟨?_, ?_⟩
    · rfl
    · rfl
end Go.Proofs.Ytnljmjibjjjelaa
