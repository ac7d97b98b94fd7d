/- Contracts of the document's product: of a number and a float. -/
import Derived.Test.YtdemonageoagiaaProdC
import Derived.Test.YtdemonageoagiaaProdD
set_option linter.unusedSimpArgs false
set_option linter.unusedVariables false
namespace Go.Proofs.Ytdemonageoagiaa
open Go.RowKit Mo
theorem rsize_any (n : Int) (w : World) (n1 : -9223372036854775808 ≤ n) (n2 : n ≤ 9223372036854775807) :
    Calls Try.prog 32 #[.int .i64 n] w fun e w' => e = .returned (.int .u64 (n.natAbs : Nat)) ∧ w = w' := by
  rcases (show n < 0 ∨ 0 ≤ n by omega) with h | h
  · have e1 : (IntKind.u64.wrap (IntKind.u64.wrap (-(n + 1)) + 1)) = (n.natAbs : Nat) := by rw [wrap_u64, wrap_u64]; omega
    have e2 : IntKind.u64.wrap (-(n + 1) + 1) = (n.natAbs : Nat) := by rw [wrap_u64]; omega
    go_enter Try.func32, Try.ntmps32
    go_wp2
    go_ret
    exact ⟨ret_u64 (by omega), rfl⟩
  · go_enter Try.func32, Try.ntmps32
    go_wp2
    go_ret
    exact ⟨ret_u64 (by omega), rfl⟩
theorem frac_and (b : Nat) (hb : b < 18446744073709551616) : bits .and .u64 (b : Int) 4503599627370495 = (rung b % 4503599627370496 : Nat) := by
  rw [show (4503599627370495 : Int) = ((4503599627370495 : Nat) : Int) from rfl, u64_and_nat _ _ hb (by decide)]
  refine congrArg Int.ofNat ?_
  rw [show b &&& 4503599627370495 = b % 2 ^ 52 from Nat.and_two_pow_sub_one_eq_mod b 52]
  unfold rung; omega
theorem field_and (b : Nat) (hb : b < 18446744073709551616) : bits .and .u64 ((b : Int) / 4503599627370496) 2047 = (rung b / 4503599627370496 : Nat) := by
  have := field_of b hb
  simpa using this
theorem top_bit_e (b : Nat) (hb : b < 18446744073709551616) : ((b : Int) / 9223372036854775808 == 1) = isNeg b := by
  unfold isNeg
  rw [Bool.eq_iff_iff, beq_iff_eq, decide_eq_true_iff]
  omega
theorem prodE_nan (n : Int) (b : Nat) (up : Bool) (h : 9218868437227405312 < rung b ∨ (rung b = 9218868437227405312 ∧ n = 0)) : prodE n b up = 10 ∧ prodV n b up = 0 := by
  have e : prodE n b up = 10 := by
    unfold prodE
    rcases h with h | ⟨h, rfl⟩
    · rw [if_pos h]
    · rw [if_neg (by omega), if_pos h, if_pos rfl]
  exact ⟨e, by unfold prodV; rw [e]; rfl⟩
theorem prodE_inf (n : Int) (b : Nat) (up : Bool) (h : rung b = 9218868437227405312) (hn : n ≠ 0) : prodE n b up = 11 ∧ prodV n b up = 0 := by
  have e : prodE n b up = 11 := by
    unfold prodE
    rw [if_neg (by omega), if_pos h, if_neg hn]
  exact ⟨e, by unfold prodV; rw [e]; rfl⟩
theorem prod_fin (n : Int) (b : Nat) (up : Bool) (h : rung b < 9218868437227405312) : prodE n b up = outE (pneg n b) (pabs n b up) ∧ prodV n b up = outV (pneg n b) (pabs n b up) := by
  have e : prodE n b up = outE (pneg n b) (pabs n b up) := by unfold prodE outE; rw [if_neg (by omega), if_neg (by omega)]
  refine ⟨e, ?_⟩
  unfold prodV
  rw [e]
  unfold outV outE
  cases pfit (pneg n b) (pabs n b up) <;> simp
set_option maxRecDepth 100000 in
set_option maxHeartbeats 2000000 in
theorem rproduct_none (n : Int) (b : Nat) (up : Bool) (w : World) (hb : b < 18446744073709551616) (h : 9218868437227405312 ≤ rung b) :
    Calls Try.prog 21 #[.int .i64 n, .float .f64 b, .bool up] w fun e w' => e = .returned (.tuple #[.int .i64 (prodV n b up), .int .i64 (prodE n b up)]) ∧ Below w.heap.size w w' := by
  have hr := run_bits
  have e1 := frac_and b hb
  have e2 := field_and b hb
  obtain ⟨g, e3⟩ : ∃ g, ((b : Int) / 9223372036854775808 == 1) = g := ⟨_, rfl⟩
  have hx : rung b / 4503599627370496 = 2047 := by have := rung_lt b; omega
  rw [hx] at e2
  obtain ⟨t, ht⟩ : ∃ t, decide (n < 0) = t := ⟨_, rfl⟩
  rcases (show rung b % 4503599627370496 ≠ 0 ∨ (rung b % 4503599627370496 = 0 ∧ n = 0) ∨ (rung b % 4503599627370496 = 0 ∧ n ≠ 0) by omega) with k | ⟨k, rfl⟩ | ⟨k, kn⟩
  · obtain ⟨f1, f2⟩ := prodE_nan n b up (by omega)
    rw [f1, f2]
    obtain ⟨r, hrr⟩ : ∃ r, rung b % 4503599627370496 = r := ⟨_, rfl⟩
    rw [hrr] at e1 k
    have k2 : ((r : Int) == 0) = false := beq_eq_false_iff_ne.2 (by omega)
    have k3 : (r == 0) = false := beq_eq_false_iff_ne.2 k
    clear f1 f2 hx h hrr
    go_enter Try.func21, Try.ntmps21
    go_wp2_with fail
    go_ret2
    exact ⟨rfl, Below.refl _ _⟩
  · obtain ⟨f1, f2⟩ := prodE_nan 0 b up (by omega)
    rw [f1, f2]
    rw [k] at e1
    clear f1 f2 hx h k
    go_enter Try.func21, Try.ntmps21
    go_wp2_with fail
    go_ret2
    exact ⟨rfl, Below.refl _ _⟩
  · obtain ⟨f1, f2⟩ := prodE_inf n b up (by omega) kn
    rw [f1, f2]
    rw [k] at e1
    have k2 : (n == 0) = false := beq_eq_false_iff_ne.2 kn
    clear f1 f2 hx h k
    go_enter Try.func21, Try.ntmps21
    go_wp2_with fail
    go_ret2
    exact ⟨rfl, Below.refl _ _⟩
end Go.Proofs.Ytdemonageoagiaa
