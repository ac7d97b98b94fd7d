/- SpanRelates, SpanHolds, SpanWidens: the walks. -/
import Derived.Test.YtnljmjibjjjelaaSpanM
set_option linter.unusedSimpArgs false
set_option linter.unusedVariables false
namespace Go.Proofs.Ytnljmjibjjjelaa
open Go.RowKit Mo
set_option maxHeartbeats 1000000 in
theorem rmeet_below (a b c d A B : Int) (k : Bool) (w : World) (hm : MeetIs a b c d A B k) (wa : (Lit.int .i64 a).wf = true) (wb : (Lit.int .i64 b).wf = true) (wc : (Lit.int .i64 c).wf = true) (wd : (Lit.int .i64 d).wf = true) :
    Calls Try.prog 21 #[.agg #[.int .i64 a, .int .i64 b], .agg #[.int .i64 c, .int .i64 d]] w fun e w' => e = .returned (.tuple #[.agg #[.int .i64 A, .int .i64 B], .bool k]) ∧ Below w.heap.size w w' := by
  obtain ⟨ha1, ha2⟩ := bnd64 wa
  obtain ⟨hb1, hb2⟩ := bnd64 wb
  obtain ⟨hc1, hc2⟩ := bnd64 wc
  obtain ⟨hd1, hd2⟩ := bnd64 wd
  clear wa wb wc wd
  rcases (show (isS a b = false ∧ A = 0 ∧ B = 0 ∧ k = false) ∨ (isS a b = true ∧ isS c d = false ∧ A = 0 ∧ B = 0 ∧ k = false) ∨ (isS a b = true ∧ isS c d = true ∧ min b d < max a c ∧ A = 0 ∧ B = 0 ∧ k = false) ∨ (isS a b = true ∧ isS c d = true ∧ max a c ≤ min b d ∧ A = max a c ∧ B = min b d ∧ k = true) by
    obtain ⟨h1, h2, h3⟩ := hm
    cases s1 : isS a b
    · left; simp [meetOk, s1] at h1 h2 h3; exact ⟨rfl, h2, h3, h1⟩
    · right
      cases s2 : isS c d
      · left; simp [meetOk, s2] at h1 h2 h3; exact ⟨rfl, rfl, h2, h3, h1⟩
      · right
        have g1 := isS_iff.1 s1; have g2 := isS_iff.1 s2
        cases s3 : isS (max a c) (min b d)
        · left; simp only [meetOk, s1, s2, s3, Bool.and_self, Bool.true_and, Bool.false_eq_true, if_false] at h1 h2 h3
          have := isS_not.1 s3
          exact ⟨rfl, rfl, by omega, h2, h3, h1.symm⟩
        · right; simp only [meetOk, s1, s2, s3, Bool.and_self, Bool.true_and, if_true] at h1 h2 h3
          have := isS_iff.1 s3
          exact ⟨rfl, rfl, by omega, h2, h3, h1.symm⟩) with ⟨h, rfl, rfl, rfl⟩ | ⟨h, i, rfl, rfl, rfl⟩ | ⟨h, i, j, rfl, rfl, rfl⟩ | ⟨h, i, j, hA, hB, rfl⟩
  · clear hm; have HH := Lib.hid h; clear h
    go_enter Try.func21, Try.ntmps21
    go_wp2_with (go_at_call 17; refine (is_any _ _ _).mono ?_; rintro e w1 ⟨rfl, rfl⟩; rw [HH.out])
    refine bodyPost_ret (v := .tuple #[.agg #[.int .i64 0, .int .i64 0], .bool false]) (by simp [results, Try.results21, go_sem]) rfl ⟨?_, ?_⟩
    · rfl
    · repeat (first | exact Below.refl _ _ | refine below_alloc_ ?_ _ | refine Below.drew ?_)
  · clear hm; have HH := Lib.hid h; have HI := Lib.hid i; clear h i
    go_enter Try.func21, Try.ntmps21
    go_wp2_with (go_at_call 17; refine (is_any _ _ _).mono ?_; rintro e w1 ⟨rfl, rfl⟩; first | rw [HH.out] | rw [HI.out])
    refine bodyPost_ret (v := .tuple #[.agg #[.int .i64 0, .int .i64 0], .bool false]) (by simp [results, Try.results21, go_sem]) rfl ⟨?_, ?_⟩
    · rfl
    · repeat (first | exact Below.refl _ _ | refine below_alloc_ ?_ _ | refine Below.drew ?_)
  · clear hm; have HH := Lib.hid h; have HI := Lib.hid i; clear h i
    rcases (show c ≤ a ∨ a < c by omega) with g1 | g1 <;> rcases (show b ≤ d ∨ d < b by omega) with g2 | g2
    all_goals
      first | (have e1 : max a c = a := by omega) | (have e1 : max a c = c := by omega)
      first | (have e2 : min b d = b := by omega) | (have e2 : min b d = d := by omega)
      rw [e1, e2] at j
      clear e1 e2
      go_enter Try.func21, Try.ntmps21
      go_wp2_with (go_at_call 17; refine (is_any _ _ _).mono ?_; rintro e w1 ⟨rfl, rfl⟩; first | rw [HH.out] | rw [HI.out])
      refine bodyPost_ret (v := .tuple #[.agg #[.int .i64 0, .int .i64 0], .bool false]) (by simp [results, Try.results21, go_sem]) rfl ⟨?_, ?_⟩
      · rfl
      · repeat (first | exact Below.refl _ _ | refine below_alloc_ ?_ _ | refine Below.drew ?_)
  · clear hm; have HH := Lib.hid h; have HI := Lib.hid i; clear h i
    rcases (show c ≤ a ∨ a < c by omega) with g1 | g1 <;> rcases (show b ≤ d ∨ d < b by omega) with g2 | g2
    · obtain rfl : A = a := by omega
      obtain rfl : B = b := by omega
      have j' : A ≤ B := by omega
      clear j hA hB
      go_enter Try.func21, Try.ntmps21
      go_wp2_with (go_at_call 17; refine (is_any _ _ _).mono ?_; rintro e w1 ⟨rfl, rfl⟩; first | rw [HH.out] | rw [HI.out])
      refine bodyPost_ret (v := .tuple #[.agg #[.int .i64 A, .int .i64 B], .bool true]) (by simp [results, Try.results21, go_sem]) rfl ⟨?_, ?_⟩
      · rfl
      · repeat (first | exact Below.refl _ _ | refine below_alloc_ ?_ _ | refine Below.drew ?_)
    · obtain rfl : A = a := by omega
      obtain rfl : B = d := by omega
      have j' : A ≤ B := by omega
      clear j hA hB
      go_enter Try.func21, Try.ntmps21
      go_wp2_with (go_at_call 17; refine (is_any _ _ _).mono ?_; rintro e w1 ⟨rfl, rfl⟩; first | rw [HH.out] | rw [HI.out])
      refine bodyPost_ret (v := .tuple #[.agg #[.int .i64 A, .int .i64 B], .bool true]) (by simp [results, Try.results21, go_sem]) rfl ⟨?_, ?_⟩
      · rfl
      · repeat (first | exact Below.refl _ _ | refine below_alloc_ ?_ _ | refine Below.drew ?_)
    · obtain rfl : A = c := by omega
      obtain rfl : B = b := by omega
      have j' : A ≤ B := by omega
      clear j hA hB
      go_enter Try.func21, Try.ntmps21
      go_wp2_with (go_at_call 17; refine (is_any _ _ _).mono ?_; rintro e w1 ⟨rfl, rfl⟩; first | rw [HH.out] | rw [HI.out])
      refine bodyPost_ret (v := .tuple #[.agg #[.int .i64 A, .int .i64 B], .bool true]) (by simp [results, Try.results21, go_sem]) rfl ⟨?_, ?_⟩
      · rfl
      · repeat (first | exact Below.refl _ _ | refine below_alloc_ ?_ _ | refine Below.drew ?_)
    · obtain rfl : A = c := by omega
      obtain rfl : B = d := by omega
      have j' : A ≤ B := by omega
      clear j hA hB
      go_enter Try.func21, Try.ntmps21
      go_wp2_with (go_at_call 17; refine (is_any _ _ _).mono ?_; rintro e w1 ⟨rfl, rfl⟩; first | rw [HH.out] | rw [HI.out])
      refine bodyPost_ret (v := .tuple #[.agg #[.int .i64 A, .int .i64 B], .bool true]) (by simp [results, Try.results21, go_sem]) rfl ⟨?_, ?_⟩
      · rfl
      · repeat (first | exact Below.refl _ _ | refine below_alloc_ ?_ _ | refine Below.drew ?_)
end Go.Proofs.Ytnljmjibjjjelaa
