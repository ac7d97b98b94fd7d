/- Contracts of the span package, as far as the clock reaches it: Check, Widen, Around, Drift. -/
import Derived.Test.YtajojpfenlafbaaRate
set_option linter.unusedSimpArgs false
set_option linter.unusedVariables false
namespace Go.Proofs.Ytajojpfenlafbaa
open Go.RowKit Mo
def isS (lo hi : Int) : Bool := decide (0 ≤ lo) && decide (lo ≤ hi) && decide (hi ≤ 1125899906842624)
theorem isS_iff {lo hi : Int} : isS lo hi = true ↔ 0 ≤ lo ∧ lo ≤ hi ∧ hi ≤ 1125899906842624 := by unfold isS; simp [and_assoc]
theorem isS_not {lo hi : Int} : isS lo hi = false ↔ lo < 0 ∨ 1125899906842624 < hi ∨ hi < lo := by
  rw [← Bool.not_eq_true, isS_iff]; omega
theorem ret_bool {a b : Bool} (h : a = b) : Ending.returned (.bool a) = .returned (.bool b) := by rw [h]
/-- a span's cases -/
theorem span_cases (lo hi : Int) : (isS lo hi = true ∧ 0 ≤ lo ∧ lo ≤ hi ∧ hi ≤ 1125899906842624) ∨
    (isS lo hi = false ∧ (lo < 0 ∨ (0 ≤ lo ∧ 1125899906842624 < lo) ∨ (0 ≤ lo ∧ lo ≤ 1125899906842624 ∧ hi < 0) ∨ (0 ≤ lo ∧ lo ≤ 1125899906842624 ∧ 0 ≤ hi ∧ 1125899906842624 < hi) ∨ (0 ≤ lo ∧ lo ≤ 1125899906842624 ∧ 0 ≤ hi ∧ hi ≤ 1125899906842624 ∧ hi < lo))) := by
  cases h : isS lo hi
  · right; have := isS_not.1 h; exact ⟨rfl, by omega⟩
  · left; exact ⟨rfl, isS_iff.1 h⟩
set_option maxHeartbeats 400000 in
theorem check_any (lo hi : Int) (w : World) : Calls Try.prog 28 #[.agg #[.int .i64 lo, .int .i64 hi]] w fun e w' => e = .returned (.int .i64 (if isS lo hi then 0 else 50)) ∧ w' = w.alloc (.cells #[.int .i64 lo, .int .i64 hi] 33) := by
  rcases span_cases lo hi with ⟨hs, h1, h2, h3⟩ | ⟨hs, h | ⟨h1, h⟩ | ⟨h1, h2, h⟩ | ⟨h1, h2, h3, h⟩ | ⟨h1, h2, h3, h4, h⟩⟩
  all_goals
    rw [hs]; clear hs
    try have hdec : decide (lo ≤ hi) = false := by simp; omega
    go_enter Try.func28, Try.ntmps28
    go_wp2_with (go_at_call 36; go_in)
    all_goals (go_ret; exact ⟨rfl, rfl⟩)
/-- what a span with more at both ends is, or why there is none -/
def WidIs (lo hi by_ A B E : Int) : Prop :=
  (isS lo hi = false ∧ A = 0 ∧ B = 0 ∧ E = 50) ∨ (isS lo hi = true ∧ by_ < 0 ∧ A = 0 ∧ B = 0 ∧ E = 52) ∨ (isS lo hi = true ∧ 1125899906842624 < by_ ∧ A = 0 ∧ B = 0 ∧ E = 52) ∨
  (isS lo hi = true ∧ 0 ≤ by_ ∧ by_ ≤ 1125899906842624 ∧ A = max (lo - by_) 0 ∧ B = min (hi + by_) 1125899906842624 ∧ E = 0)
set_option maxHeartbeats 800000 in
theorem widen_any (lo hi by_ A B E : Int) (w : World) (h : WidIs lo hi by_ A B E) :
    Calls Try.prog 57 #[.agg #[.int .i64 lo, .int .i64 hi], .int .i64 by_] w fun e w' => e = .returned (.tuple #[.agg #[.int .i64 A, .int .i64 B], .int .i64 E]) ∧
      w' = ((w.alloc (.cells #[.int .i64 lo, .int .i64 hi] 33)).alloc (.cells #[.int .i64 A, .int .i64 B] 33)).alloc (.cells #[.int .i64 lo, .int .i64 hi] 33) := by
  unfold WidIs at h
  generalize hs : isS lo hi = s at h
  have HS := Lib.hid hs
  rcases h with ⟨rfl, rfl, rfl, rfl⟩ | ⟨rfl, h, rfl, rfl, rfl⟩ | ⟨rfl, h, rfl, rfl, rfl⟩ | ⟨rfl, h1, h2, hA, hB, rfl⟩
  · clear hs
    go_enter Try.func57, Try.ntmps57
    go_wp2_with (first | (go_at_call 28; refine (check_any _ _ _).mono ?_; rintro e w1 ⟨rfl, rfl⟩; rw [HS.out]) | (go_at_call 36; go_in))
    refine bodyPost_ret (v := .tuple #[.agg #[.int .i64 0, .int .i64 0], .int .i64 50]) (by simp [results, Try.results57, go_sem]) rfl ⟨?_, ?_⟩
    · rfl
    · rfl
  · clear hs
    go_enter Try.func57, Try.ntmps57
    go_wp2_with (first | (go_at_call 28; refine (check_any _ _ _).mono ?_; rintro e w1 ⟨rfl, rfl⟩; rw [HS.out]) | (go_at_call 36; go_in))
    refine bodyPost_ret (v := .tuple #[.agg #[.int .i64 0, .int .i64 0], .int .i64 52]) (by simp [results, Try.results57, go_sem]) rfl ⟨?_, ?_⟩
    · rfl
    · rfl
  · clear hs
    have hd : decide (by_ ≤ 1125899906842624) = false := by simp; omega
    go_enter Try.func57, Try.ntmps57
    go_wp2_with (first | (go_at_call 28; refine (check_any _ _ _).mono ?_; rintro e w1 ⟨rfl, rfl⟩; rw [HS.out]) | (go_at_call 36; go_in))
    refine bodyPost_ret (v := .tuple #[.agg #[.int .i64 0, .int .i64 0], .int .i64 52]) (by simp [results, Try.results57, go_sem]) rfl ⟨?_, ?_⟩
    · rfl
    · rfl
  · obtain ⟨g1, g2, g3⟩ := isS_iff.1 hs
    clear hs
    have hA' := hA.symm; have hB' := hB.symm; clear hA hB
    go_enter Try.func57, Try.ntmps57
    go_wp2_with (first | (go_at_call 28; refine (check_any _ _ _).mono ?_; rintro e w1 ⟨rfl, rfl⟩; rw [HS.out]) | (go_at_call 36; go_in))
    refine bodyPost_ret (v := .tuple #[.agg #[.int .i64 A, .int .i64 B], .int .i64 0]) (by simp [results, Try.results57, go_sem]) rfl ⟨?_, ?_⟩
    · rfl
    · rfl
theorem wid_of (lo hi by_ : Int) : ∃ A B E, WidIs lo hi by_ A B E := by
  unfold WidIs
  cases isS lo hi
  · exact ⟨_, _, _, .inl ⟨rfl, rfl, rfl, rfl⟩⟩
  · rcases (show by_ < 0 ∨ 1125899906842624 < by_ ∨ (0 ≤ by_ ∧ by_ ≤ 1125899906842624) by omega) with h | h | ⟨h1, h2⟩
    · exact ⟨_, _, _, .inr (.inl ⟨rfl, h, rfl, rfl, rfl⟩)⟩
    · exact ⟨_, _, _, .inr (.inr (.inl ⟨rfl, h, rfl, rfl, rfl⟩))⟩
    · exact ⟨_, _, _, .inr (.inr (.inr ⟨rfl, h1, h2, rfl, rfl, rfl⟩))⟩
set_option maxHeartbeats 1000000 in
theorem around_any (t by_ A B E : Int) (w : World) (h : WidIs t t by_ A B E) :
    Calls Try.prog 42 #[.int .i64 t, .int .i64 by_] w fun e w' => e = .returned (.tuple #[.agg #[.int .i64 A, .int .i64 B], .int .i64 E]) ∧ w' = ((((w.alloc (.cells #[.int .i64 A, .int .i64 B] 33)).alloc (.cells #[.int .i64 t, .int .i64 t] 33)).alloc (.cells #[.int .i64 A, .int .i64 B] 33)).alloc (.cells #[.int .i64 t, .int .i64 t] 33)) := by
  have HW := Lib.hid h; clear h
  go_enter Try.func42, Try.ntmps42
  go_wp2_with (go_at_call 57; refine (widen_any _ _ _ _ _ _ _ HW.out).mono ?_; rintro e w1 ⟨rfl, rfl⟩)
  refine bodyPost_ret (v := .tuple #[.agg #[.int .i64 A, .int .i64 B], .int .i64 E]) (by simp [results, Try.results42, go_sem]) rfl ⟨?_, ?_⟩
  · rfl
  · rfl
/-- what a span is behind so much time, or why there is none -/
def DriftIs (lo hi el : Int) (b : Nat) (A B E : Int) : Prop :=
  (isS lo hi = false ∧ A = 0 ∧ B = 0 ∧ E = 50) ∨ (isS lo hi = true ∧ el < 0 ∧ A = 0 ∧ B = 0 ∧ E = 52) ∨ (isS lo hi = true ∧ 1125899906842624 < el ∧ A = 0 ∧ B = 0 ∧ E = 52) ∨
  (isS lo hi = true ∧ 0 ≤ el ∧ el ≤ 1125899906842624 ∧ rateOk b = false ∧ A = 0 ∧ B = 0 ∧ E = 51) ∨
  (isS lo hi = true ∧ 0 ≤ el ∧ el ≤ 1125899906842624 ∧ rateOk b = true ∧ A = max (lo - driftBy el b) 0 ∧ B = min (hi + driftBy el b) 1125899906842624 ∧ E = 0)
theorem drift_of (lo hi el : Int) (b : Nat) : ∃ A B E, DriftIs lo hi el b A B E := by
  unfold DriftIs
  cases isS lo hi
  · exact ⟨_, _, _, .inl ⟨rfl, rfl, rfl, rfl⟩⟩
  · rcases (show el < 0 ∨ 1125899906842624 < el ∨ (0 ≤ el ∧ el ≤ 1125899906842624) by omega) with h | h | ⟨h1, h2⟩
    · exact ⟨_, _, _, .inr (.inl ⟨rfl, h, rfl, rfl, rfl⟩)⟩
    · exact ⟨_, _, _, .inr (.inr (.inl ⟨rfl, h, rfl, rfl, rfl⟩))⟩
    · cases rateOk b
      · exact ⟨_, _, _, .inr (.inr (.inr (.inl ⟨rfl, h1, h2, rfl, rfl, rfl, rfl⟩)))⟩
      · exact ⟨_, _, _, .inr (.inr (.inr (.inr ⟨rfl, h1, h2, rfl, rfl, rfl, rfl⟩)))⟩
set_option maxHeartbeats 1000000 in
theorem drift_below (lo hi el : Int) (b : Nat) (A B E : Int) (w : World) (h : DriftIs lo hi el b A B E) (hb : b < 18446744073709551616) :
    Calls Try.prog 43 #[.agg #[.int .i64 lo, .int .i64 hi], .int .i64 el, .float .f64 b] w fun e w' => e = .returned (.tuple #[.agg #[.int .i64 A, .int .i64 B], .int .i64 E]) ∧ Below w.heap.size w w' := by
  rcases h with ⟨hs, rfl, rfl, rfl⟩ | ⟨hs, h, rfl, rfl, rfl⟩ | ⟨hs, h, rfl, rfl, rfl⟩ | ⟨hs, h1, h2, hr, rfl, rfl, rfl⟩ | ⟨hs, h1, h2, hr, hA, hB, rfl⟩
  · have HS := Lib.hid hs; clear hs
    go_enter Try.func43, Try.ntmps43
    go_wp2_with (first | (go_at_call 28; refine (check_any _ _ _).mono ?_; rintro e w1 ⟨rfl, rfl⟩; rw [HS.out]) | (go_at_call 36; go_in))
    refine bodyPost_ret (v := .tuple #[.agg #[.int .i64 0, .int .i64 0], .int .i64 50]) (by simp [results, Try.results43, go_sem]) rfl ⟨?_, ?_⟩
    · rfl
    · repeat (first | exact Below.refl _ _ | refine below_alloc_ ?_ _ | refine Below.drew ?_)
  · have HS := Lib.hid hs; clear hs
    go_enter Try.func43, Try.ntmps43
    go_wp2_with (first | (go_at_call 28; refine (check_any _ _ _).mono ?_; rintro e w1 ⟨rfl, rfl⟩; rw [HS.out]) | (go_at_call 36; go_in))
    refine bodyPost_ret (v := .tuple #[.agg #[.int .i64 0, .int .i64 0], .int .i64 52]) (by simp [results, Try.results43, go_sem]) rfl ⟨?_, ?_⟩
    · rfl
    · repeat (first | exact Below.refl _ _ | refine below_alloc_ ?_ _ | refine Below.drew ?_)
  · have HS := Lib.hid hs; clear hs
    have hd : decide (el ≤ 1125899906842624) = false := by simp; omega
    go_enter Try.func43, Try.ntmps43
    go_wp2_with (first | (go_at_call 28; refine (check_any _ _ _).mono ?_; rintro e w1 ⟨rfl, rfl⟩; rw [HS.out]) | (go_at_call 36; go_in))
    refine bodyPost_ret (v := .tuple #[.agg #[.int .i64 0, .int .i64 0], .int .i64 52]) (by simp [results, Try.results43, go_sem]) rfl ⟨?_, ?_⟩
    · rfl
    · repeat (first | exact Below.refl _ _ | refine below_alloc_ ?_ _ | refine Below.drew ?_)
  · have HS := Lib.hid hs; clear hs
    rcases rate_cls b hb with ⟨k1, k2, k3⟩ | ⟨k1, k2⟩ | ⟨k1, k2, k3⟩
    · rw [k1] at hr; cases hr
    · obtain ⟨c, hc⟩ : ∃ c, cls b = c := ⟨_, rfl⟩
      have HC := Lib.hid hc
      rw [hc] at k2
      clear hc hr k1
      go_enter Try.func43, Try.ntmps43
      go_wp2_with (first | (go_at_call 28; refine (check_any _ _ _).mono ?_; rintro e w1 ⟨rfl, rfl⟩; rw [HS.out]) | (go_at_call 36; go_in) | (go_at_call 40; refine (class_any _ _ hb).mono ?_; rintro e w1 ⟨rfl, rfl⟩; rw [HC.out]))
      refine bodyPost_ret (v := .tuple #[.agg #[.int .i64 0, .int .i64 0], .int .i64 51]) (by simp [results, Try.results43, go_sem]) rfl ⟨?_, ?_⟩
      · rfl
      · repeat (first | exact Below.refl _ _ | refine below_alloc_ ?_ _ | refine Below.drew ?_)
    · obtain ⟨c, hc⟩ : ∃ c, cls b = c := ⟨_, rfl⟩
      have HC := Lib.hid hc
      rw [hc] at k2
      have hd : decide (c < 3) = false := by simp; omega
      clear hc hr k1
      go_enter Try.func43, Try.ntmps43
      go_wp2_with (first | (go_at_call 28; refine (check_any _ _ _).mono ?_; rintro e w1 ⟨rfl, rfl⟩; rw [HS.out]) | (go_at_call 36; go_in) | (go_at_call 40; refine (class_any _ _ hb).mono ?_; rintro e w1 ⟨rfl, rfl⟩; rw [HC.out]))
      refine bodyPost_ret (v := .tuple #[.agg #[.int .i64 0, .int .i64 0], .int .i64 51]) (by simp [results, Try.results43, go_sem]) rfl ⟨?_, ?_⟩
      · rfl
      · repeat (first | exact Below.refl _ _ | refine below_alloc_ ?_ _ | refine Below.drew ?_)
  · rcases rate_cls b hb with ⟨k1, k2, k3⟩ | ⟨k1, k2⟩ | ⟨k1, k2, k3⟩
    rotate_left
    · rw [k1] at hr; cases hr
    · rw [k1] at hr; cases hr
    obtain ⟨c, hc⟩ : ∃ c, cls b = c := ⟨_, rfl⟩
    have HC := Lib.hid hc
    rw [hc] at k2
    have hd : decide (c < 3) = false := by simp; omega
    obtain ⟨z1, z2, _, _⟩ := drift_num el b hr h1 h2
    have hle := drift_le el b hr
    obtain ⟨d, hd0⟩ : ∃ d : Int, (driftBy el b : Int) = d := ⟨_, rfl⟩
    rw [hd0] at z2 hA hB
    have hd1 : 0 ≤ d := by omega
    have hd2 : d ≤ 1125899906842624 := by omega
    have HZ1 := Lib.hid z1
    have HZ2 := Lib.hid z2
    have HW := Lib.hid (show WidIs lo hi d A B 0 from .inr (.inr (.inr ⟨hs, hd1, hd2, hA, hB, rfl⟩)))
    have HS := Lib.hid hs
    clear hc hr k1 z1 z2 hle hd0 hA hB hs
    go_enter Try.func43, Try.ntmps43
    go_wp2_with (first | (go_at_call 28; refine (check_any _ _ _).mono ?_; rintro e w1 ⟨rfl, rfl⟩; rw [HS.out]) | (go_at_call 36; go_in) | (go_at_call 40; refine (class_any _ _ hb).mono ?_; rintro e w1 ⟨rfl, rfl⟩; rw [HC.out]) | (go_at_call 58; refine (times_any _ _ _ (by omega) (by omega) hb).mono ?_; rintro e w1 ⟨rfl, rfl⟩; rw [HZ1.out, HZ2.out]) | (go_at_call 57; refine (widen_any _ _ _ _ _ _ _ HW.out).mono ?_; rintro e w1 ⟨rfl, rfl⟩))
    refine bodyPost_ret (v := .tuple #[.agg #[.int .i64 A, .int .i64 B], .int .i64 0]) (by simp [results, Try.results43, go_sem]) rfl ⟨?_, ?_⟩
    · rfl
    · repeat (first | exact Below.refl _ _ | refine below_alloc_ ?_ _ | refine Below.drew ?_)
end Go.Proofs.Ytajojpfenlafbaa
