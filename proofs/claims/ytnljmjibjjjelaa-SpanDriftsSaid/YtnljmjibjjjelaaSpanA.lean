/- Contracts of the span package's functions: what is a span, wider, in, ahead. -/
import Derived.Test.YtnljmjibjjjelaaNumV
set_option linter.unusedSimpArgs false
set_option linter.unusedVariables false
namespace Go.Proofs.Ytnljmjibjjjelaa
open Go.RowKit Mo
def isS (lo hi : Int) : Bool := decide (0 ≤ lo) && decide (lo ≤ hi) && decide (hi ≤ 1125899906842624)
theorem isS_iff {lo hi : Int} : isS lo hi = true ↔ 0 ≤ lo ∧ lo ≤ hi ∧ hi ≤ 1125899906842624 := by unfold isS; simp [and_assoc]
theorem isS_not {lo hi : Int} : isS lo hi = false ↔ lo < 0 ∨ 1125899906842624 < hi ∨ hi < lo := by
  rw [← Bool.not_eq_true, isS_iff]; omega
theorem ret_bool {a b : Bool} (h : a = b) : Ending.returned (.bool a) = .returned (.bool b) := by rw [h]
/-- a span's cases -/
theorem span_cases (lo hi : Int) : (isS lo hi = true ∧ 0 ≤ lo ∧ lo ≤ hi ∧ hi ≤ 1125899906842624) ∨
    (isS lo hi = false ∧ (lo < 0 ∨ (0 ≤ lo ∧ 1125899906842624 < lo) ∨ (0 ≤ lo ∧ lo ≤ 1125899906842624 ∧ hi < 0) ∨ (0 ≤ lo ∧ lo ≤ 1125899906842624 ∧ 0 ≤ hi ∧ 1125899906842624 < hi) ∨ (0 ≤ lo ∧ lo ≤ 1125899906842624 ∧ 0 ≤ hi ∧ hi ≤ 1125899906842624 ∧ hi < lo))) := by
  cases h : isS lo hi
  · right; have := isS_not.1 h; exact ⟨rfl, by omega⟩
  · left; exact ⟨rfl, isS_iff.1 h⟩
set_option maxHeartbeats 400000 in
theorem check_any (lo hi : Int) (w : World) : Calls Try.prog 16 #[.agg #[.int .i64 lo, .int .i64 hi]] w fun e w' => e = .returned (.int .i64 (if isS lo hi then 0 else 50)) ∧ w' = w.alloc (.cells #[.int .i64 lo, .int .i64 hi] 23) := by
  rcases span_cases lo hi with ⟨hs, h1, h2, h3⟩ | ⟨hs, h | ⟨h1, h⟩ | ⟨h1, h2, h⟩ | ⟨h1, h2, h3, h⟩ | ⟨h1, h2, h3, h4, h⟩⟩
  all_goals
    rw [hs]; clear hs
    try have hdec : decide (lo ≤ hi) = false := by simp; omega
    go_enter Try.func16, Try.ntmps16
    go_wp2_with (go_at_call 27; go_in)
    all_goals (go_ret; exact ⟨rfl, rfl⟩)
set_option maxHeartbeats 400000 in
theorem is_any (lo hi : Int) (w : World) : Calls Try.prog 17 #[.agg #[.int .i64 lo, .int .i64 hi]] w fun e w' => e = .returned (.bool (isS lo hi)) ∧ w' = w.alloc (.cells #[.int .i64 lo, .int .i64 hi] 23) := by
  rcases span_cases lo hi with ⟨hs, h1, h2, h3⟩ | ⟨hs, h | ⟨h1, h⟩ | ⟨h1, h2, h⟩ | ⟨h1, h2, h3, h⟩ | ⟨h1, h2, h3, h4, h⟩⟩
  all_goals
    rw [hs]; clear hs
    try have hdec : decide (lo ≤ hi) = false := by simp; omega
    go_enter Try.func17, Try.ntmps17
    go_wp2_with (go_at_call 28; go_in)
    all_goals (go_ret; refine ⟨by first | rfl | (simp; done) | (simp; omega), rfl⟩)
def hasS (lo hi t : Int) : Bool := isS lo hi && decide (lo ≤ t) && decide (t ≤ hi)
set_option maxHeartbeats 400000 in
theorem has_any (lo hi t : Int) (w : World) : Calls Try.prog 22 #[.agg #[.int .i64 lo, .int .i64 hi], .int .i64 t] w fun e w' => e = .returned (.bool (hasS lo hi t)) ∧ w' = (w.alloc (.cells #[.int .i64 lo, .int .i64 hi] 23)).alloc (.cells #[.int .i64 lo, .int .i64 hi] 23) := by
  unfold hasS
  generalize hs : isS lo hi = s
  have HS := Lib.hid hs; clear hs
  rcases (show s = false ∨ s = true by cases s <;> simp) with rfl | rfl
  · go_enter Try.func22, Try.ntmps22
    go_wp2_with (go_at_call 16; refine (check_any lo hi _).mono ?_; rintro e w1 ⟨rfl, rfl⟩; rw [HS.out])
    all_goals (go_ret; exact ⟨rfl, rfl⟩)
  · rcases (show t < lo ∨ (lo ≤ t ∧ t ≤ hi) ∨ (lo ≤ t ∧ hi < t) by omega) with h | ⟨h, h'⟩ | ⟨h, h'⟩
    all_goals
      try have hd1 : decide (lo ≤ t) = false := by simp; omega
      try have hd2 : decide (t ≤ hi) = false := by simp; omega
      go_enter Try.func22, Try.ntmps22
      go_wp2_with (go_at_call 16; refine (check_any lo hi _).mono ?_; rintro e w1 ⟨rfl, rfl⟩; rw [HS.out])
      all_goals (go_ret; refine ⟨ret_bool (by first | rfl | (simp; done) | (simp; omega)), rfl⟩)
set_option maxHeartbeats 400000 in
theorem rhas_any (lo hi t : Int) (w : World) : Calls Try.prog 23 #[.agg #[.int .i64 lo, .int .i64 hi], .int .i64 t] w fun e w' => e = .returned (.bool (hasS lo hi t)) ∧ w' = (w.alloc (.cells #[.int .i64 lo, .int .i64 hi] 23)).alloc (.cells #[.int .i64 lo, .int .i64 hi] 23) := by
  unfold hasS
  generalize hs : isS lo hi = s
  have HS := Lib.hid hs; clear hs
  rcases (show s = false ∨ s = true by cases s <;> simp) with rfl | rfl
  · go_enter Try.func23, Try.ntmps23
    go_wp2_with (go_at_call 17; refine (is_any lo hi _).mono ?_; rintro e w1 ⟨rfl, rfl⟩; rw [HS.out])
    all_goals (go_ret; exact ⟨rfl, rfl⟩)
  · rcases (show t < lo ∨ (lo ≤ t ∧ t ≤ hi) ∨ (lo ≤ t ∧ hi < t) by omega) with h | ⟨h, h'⟩ | ⟨h, h'⟩
    all_goals
      try have hd1 : decide (t < lo) = false := by simp; omega
      try have hd2 : decide (hi < t) = false := by simp; omega
      go_enter Try.func23, Try.ntmps23
      go_wp2_with (go_at_call 17; refine (is_any lo hi _).mono ?_; rintro e w1 ⟨rfl, rfl⟩; rw [HS.out])
      all_goals (go_ret; refine ⟨ret_bool (by first | rfl | (simp; done) | (simp; omega)), rfl⟩)
def befS (a b c d : Int) : Bool := isS a b && isS c d && decide (b < c)
set_option maxHeartbeats 400000 in
theorem before_any (a b c d : Int) (w : World) : Calls Try.prog 24 #[.agg #[.int .i64 a, .int .i64 b], .agg #[.int .i64 c, .int .i64 d]] w fun e w' => e = .returned (.bool (befS a b c d)) ∧ w' = (if isS a b then (((w.alloc (.cells #[.int .i64 a, .int .i64 b] 23)).alloc (.cells #[.int .i64 c, .int .i64 d] 23)).alloc (.cells #[.int .i64 a, .int .i64 b] 23)).alloc (.cells #[.int .i64 c, .int .i64 d] 23) else ((w.alloc (.cells #[.int .i64 a, .int .i64 b] 23)).alloc (.cells #[.int .i64 c, .int .i64 d] 23)).alloc (.cells #[.int .i64 a, .int .i64 b] 23)) := by
  unfold befS
  generalize hs : isS a b = s
  generalize hs2 : isS c d = s2
  have HS := Lib.hid hs; have HS2 := Lib.hid hs2; clear hs hs2
  rcases (show s = false ∨ s = true ∧ s2 = false ∨ s = true ∧ s2 = true by cases s <;> cases s2 <;> simp) with rfl | ⟨rfl, rfl⟩ | ⟨rfl, rfl⟩
  all_goals
    go_enter Try.func24, Try.ntmps24
    go_wp2_with (go_at_call 16; refine (check_any _ _ _).mono ?_; rintro e w1 ⟨rfl, rfl⟩; first | rw [HS.out] | rw [HS2.out])
    all_goals (go_ret; refine ⟨ret_bool (by first | rfl | (simp; done) | (simp; omega)), rfl⟩)
def meetOk (a b c d : Int) : Bool := isS a b && isS c d && isS (max a c) (min b d)
set_option maxHeartbeats 800000 in
theorem meet_any (a b c d : Int) (w : World) (ha1 : -9223372036854775808 ≤ a) (ha2 : a ≤ 9223372036854775807) (hb1 : -9223372036854775808 ≤ b) (hb2 : b ≤ 9223372036854775807) (hc1 : -9223372036854775808 ≤ c) (hc2 : c ≤ 9223372036854775807) (hd1 : -9223372036854775808 ≤ d) (hd2 : d ≤ 9223372036854775807) :
    Calls Try.prog 20 #[.agg #[.int .i64 a, .int .i64 b], .agg #[.int .i64 c, .int .i64 d]] w fun e w' => e = .returned (.tuple #[.agg #[.int .i64 (if meetOk a b c d then max a c else 0), .int .i64 (if meetOk a b c d then min b d else 0)], .bool (meetOk a b c d)]) ∧
      w' = (if isS a b then (if isS c d then ((((((w.alloc (.cells #[.int .i64 a, .int .i64 b] 23)).alloc (.cells #[.int .i64 c, .int .i64 d] 23)).alloc (.cells #[.int .i64 (if meetOk a b c d then max a c else 0), .int .i64 (if meetOk a b c d then min b d else 0)] 23)).alloc (.cells #[.int .i64 (max a c), .int .i64 (min b d)] 23)).alloc (.cells #[.int .i64 a, .int .i64 b] 23)).alloc (.cells #[.int .i64 c, .int .i64 d] 23)).alloc (.cells #[.int .i64 (max a c), .int .i64 (min b d)] 23) else (((((w.alloc (.cells #[.int .i64 a, .int .i64 b] 23)).alloc (.cells #[.int .i64 c, .int .i64 d] 23)).alloc (.cells #[.int .i64 (if meetOk a b c d then max a c else 0), .int .i64 (if meetOk a b c d then min b d else 0)] 23)).alloc (.cells #[.int .i64 (max a c), .int .i64 (min b d)] 23)).alloc (.cells #[.int .i64 a, .int .i64 b] 23)).alloc (.cells #[.int .i64 c, .int .i64 d] 23)) else ((((w.alloc (.cells #[.int .i64 a, .int .i64 b] 23)).alloc (.cells #[.int .i64 c, .int .i64 d] 23)).alloc (.cells #[.int .i64 (if meetOk a b c d then max a c else 0), .int .i64 (if meetOk a b c d then min b d else 0)] 23)).alloc (.cells #[.int .i64 (max a c), .int .i64 (min b d)] 23)).alloc (.cells #[.int .i64 a, .int .i64 b] 23)) := by
  unfold meetOk
  generalize hs : isS a b = s
  generalize hs2 : isS c d = s2
  generalize hs3 : isS (max a c) (min b d) = s3
  have HS := Lib.hid hs; have HS2 := Lib.hid hs2; have HS3 := Lib.hid hs3; clear hs hs2 hs3
  rcases (show s = false ∨ s = true ∧ s2 = false ∨ s = true ∧ s2 = true ∧ s3 = false ∨ s = true ∧ s2 = true ∧ s3 = true by cases s <;> cases s2 <;> cases s3 <;> simp) with rfl | ⟨rfl, rfl⟩ | ⟨rfl, rfl, rfl⟩ | ⟨rfl, rfl, rfl⟩
  all_goals
    go_enter Try.func20, Try.ntmps20
    go_wp2_with (go_at_call 16; refine (check_any _ _ _).mono ?_; rintro e w1 ⟨rfl, rfl⟩; first | rw [HS.out] | rw [HS2.out] | rw [HS3.out])
  · refine bodyPost_ret (v := .tuple #[.agg #[.int .i64 0, .int .i64 0], .bool false]) (by simp [results, Try.results20, go_sem]) rfl ⟨?_, ?_⟩
    · rfl
    · rfl
  · refine bodyPost_ret (v := .tuple #[.agg #[.int .i64 0, .int .i64 0], .bool false]) (by simp [results, Try.results20, go_sem]) rfl ⟨?_, ?_⟩
    · rfl
    · rfl
  · refine bodyPost_ret (v := .tuple #[.agg #[.int .i64 0, .int .i64 0], .bool false]) (by simp [results, Try.results20, go_sem]) rfl ⟨?_, ?_⟩
    · rfl
    · rfl
  · refine bodyPost_ret (v := .tuple #[.agg #[.int .i64 (max a c), .int .i64 (min b d)], .bool true]) (by simp [results, Try.results20, go_sem]) rfl ⟨?_, ?_⟩
    · rfl
    · rfl
end Go.Proofs.Ytnljmjibjjjelaa
