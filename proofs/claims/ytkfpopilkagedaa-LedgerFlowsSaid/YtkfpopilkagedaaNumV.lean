/- Contracts of the num package's functions: the product of any numbers. -/
import Derived.Test.YtkfpopilkagedaaNumU
import Derived.Test.YtkfpopilkagedaaFloatG
set_option linter.unusedSimpArgs false
set_option linter.unusedVariables false
namespace Go.Proofs.Ytkfpopilkagedaa
open Go.RowKit Mo
set_option maxRecDepth 100000 in
set_option maxHeartbeats 1000000 in
theorem times_none (n : Int) (b : Nat) (w : World) (hb : b < 18446744073709551616) (h : 9218868437227405312 ≤ rung b) :
    Calls Try.prog 32 #[.int .i64 n, .float .f64 b] w fun e w' => e = .returned (.tuple #[.int .i64 (prodV n b false), .int .i64 (prodE n b false)]) ∧ w = w' := by
  have hv : ∀ E, prodE n b false = E → E ≠ 0 → prodV n b false = 0 := by
    intro E h1 h2; unfold prodV; rw [h1, if_neg h2]
  rcases (show 9218868437227405312 < rung b ∨ rung b = 9218868437227405312 ∧ n = 0 ∨ rung b = 9218868437227405312 ∧ n ≠ 0 by omega) with h1 | ⟨h1, rfl⟩ | ⟨h1, hn⟩
  · have hE : prodE n b false = 10 := by unfold prodE; rw [if_pos h1]
    rw [hE, hv _ hE (by decide)]
    have hk : cls b = 0 := by
      have hn : isNaN b = true := by unfold isNaN; simpa using h1
      unfold cls; rw [hn, if_pos rfl]
    have HK := Lib.hid hk
    clear hk h1 h hv hE
    go_enter Try.func32, Try.ntmps32
    go_wp2_with (go_at_call 30; refine (class_any b _ hb).mono ?_; rintro e w1 ⟨rfl, rfl⟩; rw [HK.out])
    all_goals (go_ret2; exact ⟨rfl, rfl⟩)
  · have hE : prodE 0 b false = 10 := by unfold prodE; rw [if_neg (by omega), if_pos h1, if_pos rfl]
    rw [hE, hv _ hE (by decide)]
    have hk : cls b = 1 ∨ cls b = 6 := by
      have hn : isNaN b = false := by unfold isNaN; simp; omega
      unfold cls; rw [hn, if_neg (by simp), if_neg (by omega), if_pos h1]; cases isNeg b <;> simp
    rcases hk with hk | hk
    all_goals
      have HK := Lib.hid hk
      clear hk h1 h hv hE
      go_enter Try.func32, Try.ntmps32
      go_wp2_with (go_at_call 30; refine (class_any b _ hb).mono ?_; rintro e w1 ⟨rfl, rfl⟩; rw [HK.out])
      all_goals (go_ret2; exact ⟨rfl, rfl⟩)
  · have hE : prodE n b false = 11 := by unfold prodE; rw [if_neg (by omega), if_pos h1, if_neg hn]
    rw [hE, hv _ hE (by decide)]
    have hk : cls b = 1 ∨ cls b = 6 := by
      have hn : isNaN b = false := by unfold isNaN; simp; omega
      unfold cls; rw [hn, if_neg (by simp), if_neg (by omega), if_pos h1]; cases isNeg b <;> simp
    have hn2 : (n == 0) = false := by simpa using hn
    rcases hk with hk | hk
    all_goals
      have HK := Lib.hid hk
      clear hk h1 h hv hE hn
      go_enter Try.func32, Try.ntmps32
      go_wp2_with (go_at_call 30; refine (class_any b _ hb).mono ?_; rintro e w1 ⟨rfl, rfl⟩; rw [HK.out])
      all_goals (go_ret2; exact ⟨rfl, rfl⟩)
theorem mul_zero (A : Nat) (w : World) (h1 : A < 18446744073709551616) :
    Calls Try.prog 42 #[.int .u64 A, .int .u64 0] w fun e w' => e = .returned (.tuple #[.int .u64 0, .int .u64 0]) ∧ w' = w := by
  have := mul_is A 0 0 0 w h1 (by decide) (by rw [Nat.mul_zero]; decide) (by rw [Nat.mul_zero]; decide)
  exact this
set_option maxRecDepth 100000 in
set_option maxHeartbeats 1000000 in
theorem times_zero (n : Int) (b : Nat) (w : World) (hn1 : -9223372036854775808 ≤ n) (hn2 : n ≤ 9223372036854775807) (h : b = 0 ∨ b = 9223372036854775808) :
    Calls Try.prog 32 #[.int .i64 n, .float .f64 b] w fun e w' => e = .returned (.tuple #[.int .i64 0, .int .i64 0]) ∧ w = w' := by
  have hm : Hid (∀ w : World, (convert 22 2 (.float .f64 b)).run Try.prog w = .ok (.int .i64 0) w) := by
    rcases h with rfl | rfl
    · exact fun w => run_convert_float_int w _ _ _ _ _ _ (by kernel_rfl) (by kernel_rfl) (by decide)
    · exact fun w => run_convert_float_int w _ _ _ _ _ _ (by kernel_rfl) (by kernel_rfl) (by decide)
  have hz : (FloatKind.f64.format.order b 0 == some Ordering.eq) = true := by rcases h with rfl | rfl <;> decide
  have hb : b < 18446744073709551616 := by rcases h with rfl | rfl <;> decide
  have hk : Hid (cls b = 4 ∨ cls b = 3) := by rcases h with rfl | rfl; exact Or.inl (by decide); exact Or.inr (by decide)
  have hm0 := hm.out
  obtain ⟨A, hA⟩ : ∃ A, A = n.natAbs := ⟨_, rfl⟩
  have hA2 : A < 18446744073709551616 := by omega
  have HA := Lib.hid hA; have HA2 := Lib.hid hA2; clear hA hA2
  clear h
  rcases hk.out with hk | hk
  all_goals
    have HK := Lib.hid hk
    clear hk
    go_enter Try.func32, Try.ntmps32
    go_wp2_with (first | (go_at_call 30; refine (class_any b _ hb).mono ?_; rintro e w1 ⟨rfl, rfl⟩; rw [HK.out]) | (go_at_call 40; go_in) | (go_at_call 59; go_in) | (go_at_call 41; go_in) | (go_at_call 61; go_in) | (go_at_call 43; refine (size_any _ _ (by first | assumption | decide) (by first | assumption | decide)).mono ?_; rintro e w1 ⟨rfl, rfl⟩; try rw [← HA.out]) | (go_at_call 42; refine (mul_zero A _ HA2.out).mono ?_; rintro e w1 ⟨rfl, rfl⟩))
    all_goals (go_ret2; exact ⟨rfl, rfl⟩)
set_option maxRecDepth 100000 in
set_option maxHeartbeats 1000000 in
/-- the product is the document's -/
theorem times_any (n : Int) (b : Nat) (w : World) (hn1 : -9223372036854775808 ≤ n) (hn2 : n ≤ 9223372036854775807) (hb : b < 18446744073709551616) :
    Calls Try.prog 32 #[.int .i64 n, .float .f64 b] w fun e w' => e = .returned (.tuple #[.int .i64 (prodV n b false), .int .i64 (prodE n b false)]) ∧ w = w' := by
  rcases (show 9218868437227405312 ≤ rung b ∨ rung b = 0 ∨ 0 < rung b ∧ rung b < 9218868437227405312 by omega) with h | h | ⟨h0, h2⟩
  · exact times_none n b w hb h
  · rw [(prod_zero n b h).1, (prod_zero n b h).2]
    exact times_zero n b w hn1 hn2 (by unfold rung at h; omega)
  · obtain ⟨c1, c2, c3, c4⟩ := nrm_spec b hb h0 h2
    have hM : rung (nrm b) % 4503599627370496 < 4503599627370496 := Nat.mod_lt _ (by decide)
    have hX : rung (nrm b) / 4503599627370496 < 2047 := by omega
    have hX0 : 1 ≤ rung (nrm b) / 4503599627370496 := by omega
    have hnx : nrx b = -52 ∨ nrx b = 0 := by unfold nrx; split <;> simp
    obtain ⟨F, hF⟩ : ∃ F, F = (if isNeg (nrm b) then 9223372036854775808 else 0) + 1022 * 4503599627370496 + rung (nrm b) % 4503599627370496 := ⟨_, rfl⟩
    have hF2 : F < 18446744073709551616 ∧ rung F / 4503599627370496 = 1022 ∧ isNeg F = isNeg (nrm b) ∧ rung F % 4503599627370496 = rung (nrm b) % 4503599627370496 := by
      rw [hF]
      generalize rung (nrm b) % 4503599627370496 = z at *
      unfold rung isNeg
      cases decide (9223372036854775808 ≤ nrm b) <;> simp <;> omega
    obtain ⟨L, hL⟩ : ∃ L, L = (if isNeg F then 9223372036854775808 else 0) + 1075 * 4503599627370496 + rung F % 4503599627370496 := ⟨_, rfl⟩
    have hL2 : L < 18446744073709551616 ∧ rung L / 4503599627370496 = 1075 ∧ isNeg L = isNeg b ∧ rung L % 4503599627370496 = rung (nrm b) % 4503599627370496 := by
      rw [hL, hF2.2.2.1, hF2.2.2.2, c4]
      generalize rung (nrm b) % 4503599627370496 = z at *
      unfold rung isNeg
      cases decide (9223372036854775808 ≤ b) <;> simp <;> omega
    obtain ⟨m, hm⟩ : ∃ m : Int, m = (if isNeg b then -((4503599627370496 + rung (nrm b) % 4503599627370496 : Nat) : Int) else (4503599627370496 + rung (nrm b) % 4503599627370496 : Nat)) := ⟨_, rfl⟩
    have hmv : ∀ w : World, (convert 22 2 (.float .f64 L)).run Try.prog w = .ok (.int .i64 m) w := by
      intro w
      refine run_convert_float_int w _ _ _ _ _ _ (by kernel_rfl) (by kernel_rfl) ?_
      rw [to_i64 L hL2.1 hL2.2.1, hL2.2.2.1, hL2.2.2.2, hm]
    have hB : m.natAbs = 4503599627370496 + rung (nrm b) % 4503599627370496 := by
      rw [hm]; generalize rung (nrm b) % 4503599627370496 = z; cases isNeg b <;> simp <;> omega
    have hms : decide (m < 0) = isNeg b := by
      rw [hm]; generalize rung (nrm b) % 4503599627370496 = z; cases isNeg b <;> simp <;> omega
    obtain ⟨y, hy⟩ : ∃ y : Int, y = nrx b + (rung (nrm b) / 4503599627370496 : Nat) - 1075 := ⟨_, rfl⟩
    have hA2 : n.natAbs ≤ 9223372036854775808 := by omega
    have hB2 : m.natAbs < 9007199254740992 := by rw [hB]; omega
    have hP2 : n.natAbs * m.natAbs < 1329227995784915872903807060280344576 :=
      Nat.lt_of_le_of_lt (Nat.mul_le_mul hA2 (Nat.le_of_lt_succ (show m.natAbs < 9007199254740991 + 1 from hB2))) (by decide)
    obtain ⟨v1, v2⟩ := prod_out n b h0 h2 y hy (n.natAbs * m.natAbs) (by rw [hB])
    have hlo : 0 ≤ ((n.natAbs * m.natAbs % 18446744073709551616 : Nat) : Int) ∧ ((n.natAbs * m.natAbs % 18446744073709551616 : Nat) : Int) < 18446744073709551616 := by omega
    have hln : Lib.bitLen (n.natAbs * m.natAbs % 18446744073709551616) ≤ 64 := Lib.bitLenAux_le 64 _ 64 (Nat.mod_lt _ (by decide))
    refine times_core b (nrm b) F L n.natAbs m.natAbs (n.natAbs * m.natAbs) n (nrx b + (rung (nrm b) / 4503599627370496 : Nat) - 1022) m _ _ y _ _ _ (pneg n b) w hb h0 h2 hn1 hn2
      (by omega) (by omega) rfl hF rfl ⟨hF2.1, hF2.2.1⟩ hL hmv ?_ ?_ (by omega) (by omega) rfl rfl ⟨by omega, by omega⟩ rfl hP2 rfl rfl ⟨hlo, rfl⟩ ⟨Int.natCast_nonneg _, ?_⟩ v1 v2
    · rw [hms]; rfl
    · rw [hy, wrap_i64]
      generalize rung (nrm b) / 4503599627370496 = z at *
      omega
    · rw [Int.toNat_natCast]; omega
end Go.Proofs.Ytkfpopilkagedaa
