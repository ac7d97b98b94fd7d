/- Contracts of the num package's functions: Key, Cmp, Of; and the document's None, Class, Cmp, Bits. -/
import Derived.Test.YtmnpmcfhmhkibaaNumV
set_option linter.unusedSimpArgs false
set_option linter.unusedVariables false
namespace Go.Proofs.Ytmnpmcfhmhkibaa
open Go.RowKit Mo
def keyN (b : Nat) : Nat := if isNaN b then 0 else if isNeg b then 18446744073709551615 - b else b + 9223372036854775808
theorem key_lt (b : Nat) (hb : b < 18446744073709551616) : keyN b < 18446744073709551616 := by
  unfold keyN isNeg
  split
  · decide
  · split
    · omega
    · rename_i h; simp at h; omega
theorem xor_all (b : Nat) (hb : b < 18446744073709551616) : bits .xor .u64 IntKind.u64.max (b : Int) = (18446744073709551615 - b : Nat) := by
  rw [show IntKind.u64.max = ((18446744073709551615 : Nat) : Int) from by decide, u64_xor_nat _ _ (by decide) hb]
  refine congrArg Int.ofNat (Nat.eq_of_testBit_eq fun i => ?_)
  rw [Nat.testBit_xor, show (18446744073709551615 : Nat) = 2 ^ 64 - 1 from rfl, Nat.testBit_two_pow_sub_one,
    show 2 ^ 64 - 1 - b = 2 ^ 64 - (b + 1) from by omega, Nat.testBit_two_pow_sub_succ (by omega)]
  by_cases h : i < 64
  · simp [h]
  · have : b.testBit i = false := Nat.testBit_lt_two_pow (Nat.lt_of_lt_of_le hb (Nat.pow_le_pow_right (n := 2) (by decide) (show 64 ≤ i by omega)))
    simp [h, this]
theorem or_top (b : Nat) (hb : b < 9223372036854775808) : bits .or .u64 (b : Int) 9223372036854775808 = (b + 9223372036854775808 : Nat) := by
  rw [show (9223372036854775808 : Int) = ((9223372036854775808 : Nat) : Int) from rfl, u64_or_nat _ _ (by omega) (by decide)]
  refine congrArg Int.ofNat ?_
  have := join63 1 b hb
  rw [Nat.one_mul] at this
  rw [Nat.or_comm, this, Nat.add_comm]
theorem top_bit (b : Nat) (hb : b < 18446744073709551616) : ((b : Int) / 9223372036854775808 == 1) = isNeg b := by
  unfold isNeg
  rw [Bool.eq_iff_iff, beq_iff_eq, decide_eq_true_iff]
  omega
set_option maxHeartbeats 400000 in
theorem key_any (b : Nat) (w : World) (hb : b < 18446744073709551616) : Calls Try.prog 18 #[.float .f64 b] w fun e w' => e = .returned (.int .u64 (keyN b : Nat)) ∧ w = w' := by
  have e0 := f_ne_self hb
  have e1 := top_bit b hb
  have hr := run_bits
  unfold keyN
  rcases (show isNaN b = true ∨ (isNaN b = false ∧ isNeg b = true) ∨ (isNaN b = false ∧ isNeg b = false) by cases isNaN b <;> cases isNeg b <;> simp) with h | ⟨h, k⟩ | ⟨h, k⟩
  · rw [h] at e0 ⊢
    go_enter Try.func18, Try.ntmps18
    go_wp2
    go_ret
    exact ⟨rfl, rfl⟩
  · rw [h] at e0 ⊢
    rw [k] at e1 ⊢
    have e2 := Lib.hid (xor_all b hb)
    clear h k
    go_enter Try.func18, Try.ntmps18
    go_wp2
    go_ret
    exact ⟨ret_u64 e2.out, rfl⟩
  · rw [h] at e0 ⊢
    rw [k] at e1 ⊢
    have k1 : b < 9223372036854775808 := by unfold isNeg at k; simpa using k
    have e2 := Lib.hid (or_top b k1)
    clear h k k1
    go_enter Try.func18, Try.ntmps18
    go_wp2
    go_ret
    exact ⟨ret_u64 e2.out, rfl⟩
def cmpN (a b : Nat) : Int := if keyN a < keyN b then -1 else if keyN b < keyN a then 1 else 0
set_option maxHeartbeats 400000 in
theorem cmp_any (a b : Nat) (w : World) (ha : a < 18446744073709551616) (hb : b < 18446744073709551616) : Calls Try.prog 16 #[.float .f64 a, .float .f64 b] w fun e w' => e = .returned (.int .i64 (cmpN a b)) ∧ w = w' := by
  unfold cmpN
  have k1 := key_lt a ha; have k2 := key_lt b hb
  obtain ⟨x, hx⟩ : ∃ x, keyN a = x := ⟨_, rfl⟩
  obtain ⟨y, hy⟩ : ∃ y, keyN b = y := ⟨_, rfl⟩
  rw [hx] at k1 ⊢; rw [hy] at k2 ⊢
  have HX := Lib.hid hx; have HY := Lib.hid hy; clear hx hy
  rcases (show x < y ∨ y < x ∨ x = y by omega) with h | h | rfl
  · rw [if_pos h]
    have d1 : decide (x < y) = true := by simp; omega
    clear h
    go_enter Try.func16, Try.ntmps16
    go_wp2_with (first | (go_at_call 18; (have := HB0; clear this); refine (key_any _ _ hb).mono ?_; rintro e w1 ⟨rfl, rfl⟩; rw [HY.out]) | (go_at_call 18; refine (key_any _ _ ha).mono ?_; rintro e w1 ⟨rfl, rfl⟩; rw [HX.out]; have HB0 := trivial))
    go_ret
    exact ⟨rfl, rfl⟩
  · rw [if_neg (by omega), if_pos h]
    have d1 : decide (x < y) = false := by simp; omega
    have d2 : decide (y < x) = true := by simp; omega
    clear h
    go_enter Try.func16, Try.ntmps16
    go_wp2_with (first | (go_at_call 18; (have := HB0; clear this); refine (key_any _ _ hb).mono ?_; rintro e w1 ⟨rfl, rfl⟩; rw [HY.out]) | (go_at_call 18; refine (key_any _ _ ha).mono ?_; rintro e w1 ⟨rfl, rfl⟩; rw [HX.out]; have HB0 := trivial))
    go_ret
    exact ⟨rfl, rfl⟩
  · rw [if_neg (by omega), if_neg (by omega)]
    have d1 : decide (x < x) = false := by simp
    go_enter Try.func16, Try.ntmps16
    go_wp2_with (first | (go_at_call 18; (have := HB0; clear this); refine (key_any _ _ hb).mono ?_; rintro e w1 ⟨rfl, rfl⟩; rw [HY.out]) | (go_at_call 18; refine (key_any _ _ ha).mono ?_; rintro e w1 ⟨rfl, rfl⟩; rw [HX.out]; have HB0 := trivial))
    go_ret
    exact ⟨rfl, rfl⟩
/-- the word that a key is of, before it is asked whether it is one -/
def ofB (k : Nat) : Nat := if 9223372036854775808 ≤ k then k - 9223372036854775808 else 18446744073709551615 - k
def ofOk (k : Nat) : Bool := decide (k = 0) || !isNaN (ofB k)
def ofV (k : Nat) : Nat := if k = 0 then 9221120237041090561 else if isNaN (ofB k) then 0 else ofB k
theorem ofB_lt (k : Nat) (hk : k < 18446744073709551616) : ofB k < 18446744073709551616 := by unfold ofB; split <;> omega
theorem ret_fb {a b : Nat} {c d : Bool} (h : a = b) (h2 : c = d) : Ending.returned (.tuple #[.float .f64 a, .bool c]) = .returned (.tuple #[.float .f64 b, .bool d]) := by rw [h, h2]
set_option maxHeartbeats 400000 in
theorem of_any (k : Nat) (w : World) (hk : k < 18446744073709551616) : Calls Try.prog 20 #[.int .u64 k] w fun e w' => e = .returned (.tuple #[.float .f64 (ofV k), .bool (ofOk k)]) ∧ w = w' := by
  have hf := run_frombits
  rcases (show k = 0 ∨ 0 < k by omega) with rfl | h0
  · have e1 : ofV 0 = 9221120237041090561 := rfl
    have e2 : ofOk 0 = true := rfl
    rw [e1, e2]
    go_enter Try.func20, Try.ntmps20
    go_wp2
    go_ret2
    exact ⟨rfl, rfl⟩
  · have hb := ofB_lt k hk
    have e0 := f_ne_self hb
    have e1 := top_bit k hk
    have d0 : ((k : Int) == 0) = false := beq_eq_false_iff_ne.2 (by omega)
    have ev : ofV k = if isNaN (ofB k) then 0 else ofB k := by unfold ofV; rw [if_neg (by omega)]
    have eo : ofOk k = !isNaN (ofB k) := by unfold ofOk; rw [decide_eq_false (by omega)]; rfl
    rw [ev, eo]
    clear ev eo
    have hsg : IntKind.u64.signed = false := rfl
    have hx := xor_all k hk
    have hy := sign_off k hk
    obtain ⟨n, hn⟩ : ∃ n, isNaN (ofB k) = n := ⟨_, rfl⟩
    rw [hn] at e0 ⊢
    clear hn
    by_cases h : 9223372036854775808 ≤ k
    · have e2 : isNeg k = true := by unfold isNeg; simpa using h
      have e3 : ofB k = rung k := by unfold ofB rung; rw [if_pos h]; omega
      rw [e2] at e1
      rw [e3] at e0 ⊢
      clear e2 e3 hx h hb
      generalize rung k = c at *
      cases n
      all_goals
        go_enter Try.func20, Try.ntmps20
        go_wp2
        go_ret2
        exact ⟨rfl, rfl⟩
    · have e2 : isNeg k = false := by unfold isNeg; simpa using h
      have e3 : ofB k = 18446744073709551615 - k := by unfold ofB; rw [if_neg h]
      rw [e2] at e1
      rw [e3] at e0 ⊢
      clear e2 e3 hy h hb
      generalize 18446744073709551615 - k = c at *
      cases n
      all_goals
        go_enter Try.func20, Try.ntmps20
        go_wp2
        go_ret2
        exact ⟨rfl, rfl⟩
end Go.Proofs.Ytmnpmcfhmhkibaa
