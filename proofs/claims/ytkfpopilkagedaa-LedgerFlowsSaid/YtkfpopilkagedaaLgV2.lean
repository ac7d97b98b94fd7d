/- The book: Move, refused. -/
import Derived.Test.YtkfpopilkagedaaLgV
set_option linter.unusedSimpArgs false
set_option linter.unusedVariables false
namespace Go.Proofs.Ytkfpopilkagedaa
open Go.RowKit Mo
theorem isa_t {a : Int} (w : World) (h : isAc a = true) : Calls Try.prog 23 #[.int .i64 a] w fun e w' => e = .returned (.bool true) ∧ w = w' :=
  (is_any a w).mono fun e w' ⟨h1, h2⟩ => ⟨by rw [h1]; unfold isAc at h; rw [h], h2⟩
theorem isa_f {a : Int} (w : World) (h : isAc a = false) : Calls Try.prog 23 #[.int .i64 a] w fun e w' => e = .returned (.bool false) ∧ w = w' :=
  (is_any a w).mono fun e w' ⟨h1, h2⟩ => ⟨by rw [h1]; unfold isAc at h; rw [h], h2⟩
theorem chk_t {n : Int} (w : World) (h : isA n = true) : Calls Try.prog 24 #[.int .i64 n] w fun e w' => e = .returned (.int .i64 0) ∧ w = w' :=
  (acheck_any n w).mono fun e w' ⟨h1, h2⟩ => ⟨by rw [h1, h]; rfl, h2⟩
theorem chk_f {n : Int} (w : World) (h : isA n = false) : Calls Try.prog 24 #[.int .i64 n] w fun e w' => e = .returned (.int .i64 40) ∧ w = w' :=
  (acheck_any n w).mono fun e w' ⟨h1, h2⟩ => ⟨by rw [h1, h]; rfl, h2⟩
set_option maxRecDepth 100000 in
set_option maxHeartbeats 2000000 in
theorem move_acc (b r : Nat) (a c n : Int) (w : World) (h : (isAc a && isAc c) = false) :
    Calls Try.prog 14 #[.pointer (some ⟨b, 0, none⟩), .int .i64 a, .int .i64 c, .int .i64 n] w fun e w' => e = .returned (.tuple #[.int .i64 0, .int .i64 141]) ∧ w = w' := by
  cases ha : isAc a
  · have HA := Lib.hid ha
    clear ha h
    go_enter Try.func14, Try.ntmps14
    go_wp2_with (go_at_call 23; refine (isa_f _ HA.out).mono ?_; rintro e w1 ⟨rfl, rfl⟩)
    go_ret2
    exact ⟨rfl, rfl⟩
  · rw [ha] at h
    have hc : isAc c = false := by simpa using h
    have HA := Lib.hid ha; have HC := Lib.hid hc
    clear ha h hc
    go_enter Try.func14, Try.ntmps14
    go_wp2_with (first | (go_at_call 23; refine (isa_t (a := a) _ HA.out).mono ?_; rintro e w1 ⟨rfl, rfl⟩) | (go_at_call 23; refine (isa_f _ HC.out).mono ?_; rintro e w1 ⟨rfl, rfl⟩))
    go_ret2
    exact ⟨rfl, rfl⟩
set_option maxRecDepth 100000 in
set_option maxHeartbeats 2000000 in
theorem move_amt (b r : Nat) (a c n : Int) (w : World) (ha : isAc a = true) (hc : isAc c = true) (h : n < 1 ∨ isA n = false) :
    Calls Try.prog 14 #[.pointer (some ⟨b, 0, none⟩), .int .i64 a, .int .i64 c, .int .i64 n] w fun e w' => e = .returned (.tuple #[.int .i64 0, .int .i64 143]) ∧ w = w' := by
  have HA := Lib.hid ha; have HC := Lib.hid hc
  clear ha hc
  by_cases h1 : n < 1
  · clear h
    go_enter Try.func14, Try.ntmps14
    go_wp2_with (first | (go_at_call 23; refine (isa_t (a := a) _ HA.out).mono ?_; rintro e w1 ⟨rfl, rfl⟩) | (go_at_call 23; refine (isa_t (a := c) _ HC.out).mono ?_; rintro e w1 ⟨rfl, rfl⟩))
    go_ret2
    exact ⟨rfl, rfl⟩
  · have hn : isA n = false := by rcases h with h | h; exact absurd h h1; exact h
    have HN := Lib.hid hn
    have d : decide (n < 1) = false := decide_eq_false h1
    clear h hn
    go_enter Try.func14, Try.ntmps14
    go_wp2_with (first | (go_at_call 23; refine (isa_t (a := a) _ HA.out).mono ?_; rintro e w1 ⟨rfl, rfl⟩) | (go_at_call 23; refine (isa_t (a := c) _ HC.out).mono ?_; rintro e w1 ⟨rfl, rfl⟩) | (go_at_call 24; refine (chk_f _ HN.out).mono ?_; rintro e w1 ⟨rfl, rfl⟩))
    go_ret2
    exact ⟨rfl, rfl⟩
set_option maxRecDepth 100000 in
set_option maxHeartbeats 2000000 in
theorem move_self (b r : Nat) (a n : Int) (w : World) (ha : isAc a = true) (h1 : 1 ≤ n) (hn : isA n = true) :
    Calls Try.prog 14 #[.pointer (some ⟨b, 0, none⟩), .int .i64 a, .int .i64 a, .int .i64 n] w fun e w' => e = .returned (.tuple #[.int .i64 0, .int .i64 144]) ∧ w = w' := by
  have HA := Lib.hid ha; have HN := Lib.hid hn
  have d : decide (n < 1) = false := by simp; omega
  clear ha hn
  go_enter Try.func14, Try.ntmps14
  go_wp2_with (first | (go_at_call 23; refine (isa_t (a := a) _ HA.out).mono ?_; rintro e w1 ⟨rfl, rfl⟩) | (go_at_call 24; refine (chk_t _ HN.out).mono ?_; rintro e w1 ⟨rfl, rfl⟩))
  go_ret2
  exact ⟨rfl, rfl⟩
end Go.Proofs.Ytkfpopilkagedaa
