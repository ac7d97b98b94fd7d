/- NumHalves: the walk. -/
import Derived.Test.YtmnpmcfhmhkibaaNumHa
set_option linter.unusedSimpArgs false
set_option linter.unusedVariables false
namespace Go.Proofs.Ytmnpmcfhmhkibaa
open Go.RowKit Mo
theorem u8_wf {n : Int} (h : (Lit.int .u8 n).wf = true) : 0 ≤ n ∧ n ≤ 255 := by
  simpa [Lit.wf, IntKind.min, IntKind.max, IntKind.signed, IntKind.bits] using h
theorem and63 : ∀ k : Fin 256, bits .and .u8 ((k.val : Nat) : Int) 63 = ((k.val % 64 : Nat) : Int) := by decide +kernel
theorem half_range : ∀ j : Fin 64, 0 < j.val → -4611686018427387904 ≤ (-9223372036854775808 : Int) / ((2 ^ j.val : Nat) : Int) ∧ (-9223372036854775808 : Int) / ((2 ^ j.val : Nat) : Int) ≤ 0 := by decide +kernel
set_option maxHeartbeats 2000000 in
theorem numHalves_walk (w : World) (n : Int) (wn : (Lit.int .i64 n).wf = true) (k : Int) (wk : (Lit.int .u8 k).wf = true) :
    Calls Try.prog 10 #[.int .i64 n, .int .u8 k] w fun e w' => e = .returned (.bool true) ∧ Below w.heap.size w w' := by
  obtain ⟨n1, n2⟩ := i64_wf wn
  obtain ⟨k1, k2⟩ := u8_wf wk
  obtain ⟨j, hj0, hj1⟩ : ∃ j : Nat, bits .and .u8 k 63 = (j : Int) ∧ j ≤ 63 := by
    obtain ⟨m, rfl⟩ : ∃ m : Nat, k = m := ⟨k.toNat, by omega⟩
    exact ⟨m % 64, and63 ⟨m, by omega⟩, by omega⟩
  clear wn wk k1 k2
  have HB : Hid (Below w.heap.size w w) := Lib.hid (Below.refl _ _)
  have hf := run_frombits
  have hng : ∀ w : World, (Op.unary .neg (.float .f64 (halfW j))).run Try.prog w = .ok (.float .f64 (halfW j + 9223372036854775808)) w := fun w => by
    have := xor_sign (halfW j) (by have := (half_parts j hj1).2.2.2.2; omega)
    show Result.ok (Value.float .f64 (halfW j ^^^ 9223372036854775808)) w = _
    rw [this]; unfold fneg; rw [if_neg (by have := (half_parts j hj1).2.2.2.2; omega)]
  have s1 : IntKind.u64.wrap (1023 - (j : Int)) = (1023 - j : Nat) := by rw [wrap_u64]; omega
  have s2 : IntKind.u64.wrap (((1023 - j : Nat) : Int) * 4503599627370496) = (halfW j : Nat) := by rw [wrap_u64]; unfold halfW; omega
  have p1 := half_prod n j hj1 n1 n2
  have hw1 : halfW j < 18446744073709551616 := by have := (half_parts j hj1).2.2.2.2; omega
  have hw2 : halfW j + 9223372036854775808 < 18446744073709551616 := by have := (half_parts j hj1).2.2.2.2; omega
  rcases (show (n ≠ -9223372036854775808) ∨ (n = -9223372036854775808 ∧ 0 < j) ∨ (n = -9223372036854775808 ∧ j = 0) by omega) with h | ⟨rfl, h⟩ | ⟨rfl, rfl⟩
  · have p2 := half_prod_neg n j hj1 n1 n2 (.inl h)
    have HP1 := Lib.hid p1
    have HP2 := Lib.hid p2
    have d0 : (n == -9223372036854775808) = false := beq_eq_false_iff_ne.2 h
    clear p1 p2
    generalize halfW j = F at *
    go_enter Try.func10, Try.ntmps10
    go_wp2_with (first
      | (go_at_call 13; refine (awake01_any _).mono ?_; rintro e w5 ⟨rfl, hb⟩; replace HB := Lib.hid (below_then (w := w) (by repeat (first | exact HB.out | refine below_alloc_ ?_ _ | exact Below.refl _ _)) hb); clear hb)
      | (go_at_call 23; (have := HB0; clear this); refine (times_any n _ _ n1 n2 hw2).mono ?_; rintro e w1 ⟨rfl, rfl⟩; rw [HP2.out.1, HP2.out.2])
      | (go_at_call 23; refine (times_any n _ _ n1 n2 hw1).mono ?_; rintro e w1 ⟨rfl, rfl⟩; rw [HP1.out.1, HP1.out.2]; have HB0 := trivial))
    go_ret
    exact ⟨rfl, HB.out⟩
  · have p2 := half_prod_neg (-9223372036854775808) j hj1 n1 n2 (.inr h)
    have hl := half_least ⟨j, by omega⟩
    have hlo : -4611686018427387904 ≤ (-9223372036854775808 : Int) / ((2 ^ j : Nat) : Int) ∧ (-9223372036854775808 : Int) / ((2 ^ j : Nat) : Int) ≤ 0 := half_range ⟨j, by omega⟩ h
    simp only at hl
    rw [show (-(-9223372036854775808) : Int) = 9223372036854775808 from rfl, hl] at p2
    obtain ⟨Q, hQ⟩ : ∃ Q, (-9223372036854775808 : Int) / ((2 ^ j : Nat) : Int) = Q := ⟨_, rfl⟩
    rw [hQ] at p1 p2 hlo
    have hQ2 : (-9223372036854775808 : Int) / 2 ^ j = Q := by rw [← hQ]; simp
    obtain ⟨q1, q2⟩ := hlo
    have HP1 := Lib.hid p1
    have HP2 := Lib.hid p2
    have dj : decide (0 < j) = true := by simpa using h
    clear p1 p2 hl hQ
    generalize halfW j = F at *
    go_enter Try.func10, Try.ntmps10
    go_wp2_with (first
      | (go_at_call 13; refine (awake01_any _).mono ?_; rintro e w5 ⟨rfl, hb⟩; replace HB := Lib.hid (below_then (w := w) (by repeat (first | exact HB.out | refine below_alloc_ ?_ _ | exact Below.refl _ _)) hb); clear hb)
      | (go_at_call 23; (have := HB0; clear this); refine (times_any _ _ _ n1 n2 hw2).mono ?_; rintro e w1 ⟨rfl, rfl⟩; rw [HP2.out.1, HP2.out.2])
      | (go_at_call 23; refine (times_any _ _ _ n1 n2 hw1).mono ?_; rintro e w1 ⟨rfl, rfl⟩; rw [HP1.out.1, HP1.out.2]; have HB0 := trivial))
    go_ret
    exact ⟨rfl, HB.out⟩
  · obtain ⟨j, hj⟩ : ∃ j : Nat, 0 = j := ⟨_, rfl⟩
    have p2 : prodE (-9223372036854775808) (halfW j + 9223372036854775808) false = 11 := by rw [← hj]; exact half_over
    have hQ1 : (-9223372036854775808 : Int) / ((2 ^ j : Nat) : Int) = -9223372036854775808 := by rw [← hj]; decide
    have hQ2 : (-9223372036854775808 : Int) / 2 ^ j = -9223372036854775808 := by rw [← hj]; decide
    rw [hj] at hj0 s1 s2 p1 hw1 hw2 hng hj1
    rw [hQ1] at p1
    obtain ⟨v, hv⟩ : ∃ v, prodV (-9223372036854775808) (halfW j + 9223372036854775808) false = v := ⟨_, rfl⟩
    have HP1 := Lib.hid p1
    have HP2 := Lib.hid p2
    have HV := Lib.hid hv
    have dj : decide (0 < j) = false := by rw [← hj]; rfl
    have dj2 : (j == 0) = true := by rw [← hj]; rfl
    have dj3 : ((j : Int) == 0) = true := by rw [← hj]; rfl
    clear p1 p2 hQ1 hv hj
    generalize halfW j = F at *
    go_enter Try.func10, Try.ntmps10
    go_wp2_with (first
      | (go_at_call 13; refine (awake01_any _).mono ?_; rintro e w5 ⟨rfl, hb⟩; replace HB := Lib.hid (below_then (w := w) (by repeat (first | exact HB.out | refine below_alloc_ ?_ _ | exact Below.refl _ _)) hb); clear hb)
      | (go_at_call 23; (have := HB0; clear this); refine (times_any _ _ _ n1 n2 hw2).mono ?_; rintro e w1 ⟨rfl, rfl⟩; rw [HP2.out, HV.out])
      | (go_at_call 23; refine (times_any _ _ _ n1 n2 hw1).mono ?_; rintro e w1 ⟨rfl, rfl⟩; rw [HP1.out.1, HP1.out.2]; have HB0 := trivial))
    go_ret
    exact ⟨rfl, HB.out⟩
end Go.Proofs.Ytmnpmcfhmhkibaa
