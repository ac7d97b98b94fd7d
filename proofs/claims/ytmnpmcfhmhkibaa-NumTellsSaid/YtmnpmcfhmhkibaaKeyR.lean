/- Contracts of the document's functions of floats: Key. -/
import Derived.Test.YtmnpmcfhmhkibaaKeyW
set_option linter.unusedSimpArgs false
set_option linter.unusedVariables false
namespace Go.Proofs.Ytmnpmcfhmhkibaa
open Go.RowKit Mo
/-- bit i of a key, and the key's lowest k bits -/
def kbit (b i : Nat) : Nat := if isNeg b = true ∨ i = 63 then 1 - b / 2 ^ i % 2 else b / 2 ^ i % 2
def klow (b : Nat) : Nat → Nat | 0 => 0 | k + 1 => klow b k + kbit b k * 2 ^ k
theorem kbit_le (b i : Nat) : kbit b i ≤ 1 := by unfold kbit; split <;> omega
theorem klow_lt (b k : Nat) : klow b k < 2 ^ k := by
  induction k with
  | zero => simp [klow]
  | succ k ih =>
    have h := kbit_le b k
    simp only [klow, Nat.pow_succ]
    have : kbit b k * 2 ^ k ≤ 1 * 2 ^ k := Nat.mul_le_mul_right _ h
    omega
theorem bit_mod (b k : Nat) : b % 2 ^ (k + 1) = b % 2 ^ k + b / 2 ^ k % 2 * 2 ^ k := by
  rw [Nat.pow_succ, Nat.mod_mul, Nat.mul_comm (2 ^ k)]
theorem klow_pos (b : Nat) (hg : isNeg b = false) (k : Nat) (hk : k ≤ 63) : klow b k = b % 2 ^ k := by
  induction k with
  | zero => simp [klow, Nat.mod_one]
  | succ k ih =>
    rw [klow, ih (by omega), bit_mod]
    unfold kbit
    rw [hg, if_neg (by simp; omega)]
theorem klow_neg (b : Nat) (hg : isNeg b = true) (k : Nat) : klow b k + b % 2 ^ k = 2 ^ k - 1 := by
  induction k with
  | zero => simp [klow, Nat.mod_one]
  | succ k ih =>
    rw [klow, bit_mod]
    unfold kbit
    rw [hg, if_pos (.inl rfl)]
    have h2 : b / 2 ^ k % 2 < 2 := Nat.mod_lt _ (by decide)
    have hp : 0 < 2 ^ k := Nat.two_pow_pos _
    rw [Nat.pow_succ]
    rcases (show b / 2 ^ k % 2 = 0 ∨ b / 2 ^ k % 2 = 1 by omega) with e | e <;> rw [e] <;> omega
theorem klow_key (b : Nat) (hb : b < 18446744073709551616) (hn : isNaN b = false) : klow b 64 = keyN b := by
  unfold keyN
  rw [hn]
  cases hg : isNeg b
  · simp only [Bool.false_eq_true, if_false]
    have hb2 : b < 9223372036854775808 := by unfold isNeg at hg; simpa using hg
    show klow b 63 + kbit b 63 * 2 ^ 63 = _
    rw [klow_pos b hg 63 (by omega)]
    unfold kbit
    rw [if_pos (.inr rfl)]
    simp only [Nat.reducePow]
    omega
  · simp only [Bool.false_eq_true, if_false, if_true]
    have := klow_neg b hg 64
    simp only [Nat.reducePow] at this
    omega
set_option maxHeartbeats 1000000 in
theorem rkey_any (b : Nat) (w : World) (hb : b < 18446744073709551616) : Calls Try.prog 19 #[.float .f64 b] w fun e w' => e = .returned (.int .u64 (keyN b : Nat)) ∧ w = w' := by
  have hr := run_bits
  cases hn : isNaN b
  · have HN := Lib.hid hn
    have HK := Lib.hid (klow_key b hb hn)
    have e1 := top_bit b hb
    clear hn
    go_enter Try.func19, Try.ntmps19
    go_wp2_with (go_at_call 34; refine (none_any _ _ hb).mono ?_; rintro e w1 ⟨rfl, rfl⟩; rw [HN.out])
    go_loop [4, 5] (fun o i => ∃ (k : Nat), k ≤ 64 ∧ i = .int .i64 k ∧ o = .int .u64 (klow b k : Nat)) (fun _ i => 64 - (intOf i).toNat)
    case atStart => exact ⟨0, by omega, rfl, rfl⟩
    case round =>
      obtain ⟨k, hk, rfl, rfl⟩ := hrel
      by_cases hlt : k < 64
      · have hd : decide ((k : Int) < 64) = true := by simp; omega
        have hl1 := klow_lt b k
        have hl2 := klow_lt b (k + 1)
        have hle := kbit_le b k
        have hstep : klow b (k + 1) = klow b k + kbit b k * 2 ^ k := rfl
        have hp64 : (2 : Nat) ^ (k + 1) ≤ 18446744073709551616 := Nat.pow_le_pow_right (n := 2) (by decide) (show k + 1 ≤ 64 by omega)
        have HF : Hid (IntKind.u64.wrap ((klow b k : Int) + IntKind.u64.wrap (((kbit b k : Nat) : Int) * 2 ^ k)) = (klow b (k + 1) : Nat)) := Lib.hid (by
          rw [show ((kbit b k : Nat) : Int) * 2 ^ k = ((kbit b k * 2 ^ k : Nat) : Int) by simp, wrap_u64, wrap_u64, hstep]; omega)
        have hand : bits .and .u64 ((b : Int) / 2 ^ k) 1 = ((b / 2 ^ k % 2 : Nat) : Int) := by
          rw [show (b : Int) / 2 ^ k = ((b / 2 ^ k : Nat) : Int) by simp, show (1 : Int) = ((1 : Nat) : Int) from rfl, u64_and_nat _ _ (Nat.lt_of_le_of_lt (Nat.div_le_self _ _) hb) (by decide), Nat.and_one_is_mod]
        have h2 : b / 2 ^ k % 2 < 2 := Nat.mod_lt _ (by decide)
        clear hstep hl2 hp64 hl1
        generalize hng : isNeg b = g at *
        generalize hbt : b / 2 ^ k % 2 = t at *
        obtain ⟨y, hy⟩ : ∃ y, kbit b k = y := ⟨_, rfl⟩
        have hky : y = if g = true ∨ k = 63 then 1 - t else t := by rw [← hy]; unfold kbit; rw [hng, hbt]
        rw [hy] at hle HF
        generalize klow b k = lo at *
        clear hy hbt
        have hsub : (1 : Int) - t = ((1 - t : Nat) : Int) := by omega
        cases g
        · rcases (show k = 63 ∨ k ≠ 63 by omega) with h63 | h63
          · have d63 : ((k : Int) == 63) = true := by simp; omega
            have d63' : (k == 63) = true := by simp; omega
            rw [if_pos (.inr h63)] at hky
            subst hky
            clear h63
            go_wp2_with fail
            go_round
            case rel => exact ⟨k + 1, by omega, by go_num, congrArg (Value.int .u64) HF.out⟩
            case measure => simp [intOf]; omega
          · have d63 : ((k : Int) == 63) = false := beq_eq_false_iff_ne.2 (by omega)
            have d63' : (k == 63) = false := beq_eq_false_iff_ne.2 h63
            rw [if_neg (by simp; exact h63)] at hky
            subst hky
            go_wp2_with fail
            go_round
            case rel => exact ⟨k + 1, by omega, by go_num, congrArg (Value.int .u64) HF.out⟩
            case measure => simp [intOf]; omega
        · rw [if_pos (.inl rfl)] at hky
          subst hky
          go_wp2_with fail
          go_round
          case rel => exact ⟨k + 1, by omega, by go_num, congrArg (Value.int .u64) HF.out⟩
          case measure => simp [intOf]; omega
      · have hd : decide ((k : Int) < 64) = false := by simp; omega
        obtain rfl : k = 64 := by omega
        go_wp2
        go_ret
        rw [HK.out]
        exact ⟨rfl, rfl⟩
  · have HN := Lib.hid hn
    have e0 : keyN b = 0 := by unfold keyN; rw [hn]; rfl
    rw [e0]
    clear hn
    go_enter Try.func19, Try.ntmps19
    go_wp2_with (go_at_call 34; refine (none_any _ _ hb).mono ?_; rintro e w1 ⟨rfl, rfl⟩; rw [HN.out])
    go_ret
    exact ⟨rfl, rfl⟩
end Go.Proofs.Ytmnpmcfhmhkibaa
