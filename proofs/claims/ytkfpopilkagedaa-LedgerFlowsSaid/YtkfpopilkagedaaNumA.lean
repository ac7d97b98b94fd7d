/- Contracts of the num package's functions: classes of floats. -/
import Derived.Test.YtkfpopilkagedaaRows
import Derived.Test.YtkfpopilkagedaaWords
import Derived.Test.YtkfpopilkagedaaFloatB
import Derived.WalkKit
import Derived.WalkLawsBesides
import Derived.Lib.Hide
import Derived.Outline
import Derived.WalkSpells
set_option linter.unusedSimpArgs false
set_option linter.unusedVariables false
namespace Go.Proofs.Ytkfpopilkagedaa
open Go.RowKit Mo

theorem run_bits (b : Nat) (w : World) : (callFunc 37 #[.float .f64 b]).run Try.prog w = .ok (.value (.int .u64 b)) w := by kernel_rfl
theorem run_frombits (b : Int) (w : World) : (callFunc 68 #[.int .u64 b]).run Try.prog w = .ok (.value (.float .f64 b.toNat)) w := by kernel_rfl
theorem ret_i64 {a b : Int} (h : a = b) : Ending.returned (.int .i64 a) = .returned (.int .i64 b) := by rw [h]
theorem f64_wf {b : Nat} (h : (Lit.float .f64 b).wf = true) : b < 18446744073709551616 := by simpa [Lit.wf] using h
set_option maxRecDepth 100000 in
set_option maxHeartbeats 400000 in
/-- IsInf with a sign below 0, above 0 -/
theorem isinf_neg (b : Nat) (w : World) (hb : b < 18446744073709551616) : Calls Try.prog 38 #[.float .f64 b, .int .i64 (-1)] w fun e w' => e = .returned (.bool (!isNaN b && decide (rung b = 9218868437227405312) && isNeg b)) ∧ w = w' := by
  have hng : ∀ w : World, (Op.unary .neg (.float .f64 b)).run Try.prog w = .ok (.float .f64 (b ^^^ 9223372036854775808)) w := fun _ => rfl
  go_enter Try.func38, Try.ntmps38
  go_wp2
  go_ret
  refine ⟨?_, rfl⟩
  show Ending.returned (.bool (FloatKind.f64.format.order (b ^^^ 9223372036854775808) 9218868437227405311 == some Ordering.gt)) = _
  rw [xor_sign b hb, f_gt (fneg_lt hb) (by decide), isNaN_fneg hb, ikey_fneg hb]
  congr 2
  have e1 : ikey 9218868437227405311 = 9218868437227405311 := by decide
  have e2 : isNaN 9218868437227405311 = false := by decide
  rw [e1, e2, Bool.eq_iff_iff]
  unfold ikey isNaN
  cases isNeg b <;> simp <;> omega
set_option maxRecDepth 100000 in
set_option maxHeartbeats 400000 in
theorem isinf_pos (b : Nat) (w : World) (hb : b < 18446744073709551616) : Calls Try.prog 38 #[.float .f64 b, .int .i64 1] w fun e w' => e = .returned (.bool (!isNaN b && decide (rung b = 9218868437227405312) && !isNeg b)) ∧ w = w' := by
  go_enter Try.func38, Try.ntmps38
  go_wp2
  go_ret
  refine ⟨?_, rfl⟩
  show Ending.returned (.bool (FloatKind.f64.format.order b 9218868437227405311 == some Ordering.gt)) = _
  rw [f_gt hb (by decide)]
  congr 2
  have e1 : ikey 9218868437227405311 = 9218868437227405311 := by decide
  have e2 : isNaN 9218868437227405311 = false := by decide
  rw [e1, e2, Bool.eq_iff_iff]
  unfold ikey isNaN
  cases isNeg b <;> simp <;> omega

set_option maxRecDepth 100000 in
set_option maxHeartbeats 800000 in
theorem class_any (b : Nat) (w : World) (hb : b < 18446744073709551616) : Calls Try.prog 30 #[.float .f64 b] w fun e w' => e = .returned (.int .i64 (cls b)) ∧ w = w' := by
  have hr := run_bits
  obtain ⟨n, hn⟩ : ∃ n, (FloatKind.f64.format.order b b != some Ordering.eq) = n := ⟨_, rfl⟩
  obtain ⟨l, hl⟩ : ∃ l, (FloatKind.f64.format.order b 0 == some Ordering.lt) = l := ⟨_, rfl⟩
  have HN := Lib.hid (hn.symm.trans (f_ne_self hb))
  have HL := Lib.hid (hl.symm.trans (f_lt hb (by decide)))
  have HW := Lib.hid (word_of b hb)
  go_enter Try.func30, Try.ntmps30
  go_wp2_with fail
  · have h : n = true := by assumption
    go_ret
    refine ⟨ret_i64 ?_, rfl⟩
    have := HN.out; unfold cls; rw [← this, h]; rfl
  · have h0 : n = false := by assumption
    have h : ((b : Int) == 0) = true := by assumption
    go_ret
    refine ⟨ret_i64 ?_, rfl⟩
    have hb0 : b = 0 := by simpa using h
    subst hb0; decide
  · have h0 : n = false := by assumption
    have h : ((b : Int) == 9223372036854775808) = true := by assumption
    go_ret
    refine ⟨ret_i64 ?_, rfl⟩
    have hb0 : b = 9223372036854775808 := by have := beq_iff_eq.1 h; omega
    subst hb0; decide
  · have h0 : n = false := by assumption
    have h1 : ((b : Int) == 0) = false := by assumption
    have h2 : ((b : Int) == 9223372036854775808) = false := by assumption
    have H1 : Hid (b ≠ 0) := by have := beq_eq_false_iff_ne.1 h1; show b ≠ 0; omega
    have H2 : Hid (b ≠ 9223372036854775808) := by have := beq_eq_false_iff_ne.1 h2; show b ≠ _; omega
    have H0 : Hid (isNaN b = false) := by rw [← HN.out]; exact h0
    refine (isinf_neg b _ hb).mono ?_
    rintro e w1 ⟨rfl, rfl⟩
    generalize hq : (!isNaN b && decide (rung b = 9218868437227405312) && isNeg b) = q
    have HQ := Lib.hid hq; clear hq
    go_wp2_with fail
    · have h : q = true := by assumption
      go_ret
      refine ⟨ret_i64 ?_, rfl⟩
      have := HQ.out; rw [h, H0.out] at this; simp at this
      unfold cls; rw [H0.out, this.1, this.2]; rfl
    · have h : q = false := by assumption
      refine (isinf_pos b _ hb).mono ?_
      rintro e w1 ⟨rfl, rfl⟩
      generalize hq2 : (!isNaN b && decide (rung b = 9218868437227405312) && !isNeg b) = q2
      have HQ2 := Lib.hid hq2; clear hq2
      have e0 : isNaN 0 = false := by decide
      have e1 : ikey 0 = 0 := by decide
      go_wp2_with fail
      · have h : q2 = true := by assumption
        go_ret
        refine ⟨ret_i64 ?_, rfl⟩
        have := HQ2.out; rw [h, H0.out] at this; simp at this
        unfold cls; rw [H0.out, this.1, this.2]; rfl
      all_goals
        have h3 : q2 = false := by assumption
        have hr0 : rung b ≠ 0 := by
          have a0 := HW.out; have a1 := H1.out; have a2 := H2.out
          intro e; rw [e] at a0; revert a0
          cases isNeg b <;> simp <;> omega
        have hri : rung b ≠ 9218868437227405312 := by
          intro e
          have a1 := HQ.out; have a2 := HQ2.out
          rw [h, H0.out, e] at a1; rw [h3, H0.out, e] at a2
          revert a1 a2; cases isNeg b <;> simp
        have hl := HL.out
        rw [H0.out, e0, e1] at hl
        unfold ikey at hl
        go_ret
        refine ⟨ret_i64 ?_, rfl⟩
        unfold cls
        rw [H0.out, if_neg (by simp), if_neg hr0, if_neg hri]
        cases hng : isNeg b
        · rw [hng] at hl
          have hl' : l = false := by rw [hl]; simp
          first | rfl | (exfalso; exact Bool.noConfusion ((show l = true by assumption).symm.trans hl'))
        · rw [hng] at hl
          have hl' : l = true := by rw [hl]; simp; omega
          first | rfl | (exfalso; exact Bool.noConfusion ((show l = false by assumption).symm.trans hl'))
end Go.Proofs.Ytkfpopilkagedaa
