/- Joined: NumA, NumB, NumT, NumC, NumU, NumV, KeyK, Rate. -/
import Derived.Test.YtjhhpcjnhjbpdaaGreatRows
import Derived.Test.YtjhhpcjnhjbpdaaGreatWords
import Derived.Test.YtjhhpcjnhjbpdaaGreatPF
import Derived.WalkKit
import Derived.WalkLawsBesides
import Derived.Lib.Hide
import Derived.Outline
import Derived.WalkSpells
import Derived.Test.YtjhhpcjnhjbpdaaGreatShelf
import Derived.Laws.FloatArith
/- Contracts of the num package's functions: classes of floats. -/
set_option linter.unusedSimpArgs false
set_option linter.unusedVariables false
namespace Go.Proofs.YtjhhpcjnhjbpdaaGreat
open Go.RowKit Mo

theorem run_bits (b : Nat) (w : World) : (callFunc 55 #[.float .f64 b]).run Tryz.prog w = .ok (.value (.int .u64 b)) w := by kernel_rfl
theorem run_frombits (b : Int) (w : World) : (callFunc 101 #[.int .u64 b]).run Tryz.prog w = .ok (.value (.float .f64 b.toNat)) w := by kernel_rfl
theorem ret_i64 {a b : Int} (h : a = b) : Ending.returned (.int .i64 a) = .returned (.int .i64 b) := by rw [h]
theorem f64_wf {b : Nat} (h : (Lit.float .f64 b).wf = true) : b < 18446744073709551616 := by simpa [Lit.wf] using h
set_option maxRecDepth 100000 in
set_option maxHeartbeats 400000 in
/-- IsInf with a sign below 0, above 0 -/
theorem isinf_neg (b : Nat) (w : World) (hb : b < 18446744073709551616) : Calls Tryz.prog 81 #[.float .f64 b, .int .i64 (-1)] w fun e w' => e = .returned (.bool (!isNaN b && decide (rung b = 9218868437227405312) && isNeg b)) ∧ w = w' := by
  have hng : ∀ w : World, (Op.unary .neg (.float .f64 b)).run Tryz.prog w = .ok (.float .f64 (b ^^^ 9223372036854775808)) w := fun _ => rfl
  go_enter Tryz.func81, Tryz.ntmps81
  go_wp2
  go_ret
  refine ⟨?_, rfl⟩
  show Ending.returned (.bool (FloatKind.f64.format.order (b ^^^ 9223372036854775808) 9218868437227405311 == some Ordering.gt)) = _
  rw [xor_sign b hb, f_gt (fneg_lt hb) (by decide), isNaN_fneg hb, ikey_fneg hb]
  congr 2
  have e1 : ikey 9218868437227405311 = 9218868437227405311 := by decide
  have e2 : isNaN 9218868437227405311 = false := by decide
  rw [e1, e2, Bool.eq_iff_iff]
  unfold ikey isNaN
  cases isNeg b <;> simp <;> omega
set_option maxRecDepth 100000 in
set_option maxHeartbeats 400000 in
theorem isinf_pos (b : Nat) (w : World) (hb : b < 18446744073709551616) : Calls Tryz.prog 81 #[.float .f64 b, .int .i64 1] w fun e w' => e = .returned (.bool (!isNaN b && decide (rung b = 9218868437227405312) && !isNeg b)) ∧ w = w' := by
  go_enter Tryz.func81, Tryz.ntmps81
  go_wp2
  go_ret
  refine ⟨?_, rfl⟩
  show Ending.returned (.bool (FloatKind.f64.format.order b 9218868437227405311 == some Ordering.gt)) = _
  rw [f_gt hb (by decide)]
  congr 2
  have e1 : ikey 9218868437227405311 = 9218868437227405311 := by decide
  have e2 : isNaN 9218868437227405311 = false := by decide
  rw [e1, e2, Bool.eq_iff_iff]
  unfold ikey isNaN
  cases isNeg b <;> simp <;> omega

set_option maxRecDepth 100000 in
set_option maxHeartbeats 800000 in
theorem class_any (b : Nat) (w : World) (hb : b < 18446744073709551616) : Calls Tryz.prog 63 #[.float .f64 b] w fun e w' => e = .returned (.int .i64 (cls b)) ∧ w = w' := by
  have hr := run_bits
  obtain ⟨n, hn⟩ : ∃ n, (FloatKind.f64.format.order b b != some Ordering.eq) = n := ⟨_, rfl⟩
  obtain ⟨l, hl⟩ : ∃ l, (FloatKind.f64.format.order b 0 == some Ordering.lt) = l := ⟨_, rfl⟩
  have HN := Lib.hid (hn.symm.trans (f_ne_self hb))
  have HL := Lib.hid (hl.symm.trans (f_lt hb (by decide)))
  have HW := Lib.hid (word_of b hb)
  go_enter Tryz.func63, Tryz.ntmps63
  go_wp2_with fail
  · have h : n = true := by assumption
    go_ret
    refine ⟨ret_i64 ?_, rfl⟩
    have := HN.out; unfold cls; rw [← this, h]; rfl
  · have h0 : n = false := by assumption
    have h : ((b : Int) == 0) = true := by assumption
    go_ret
    refine ⟨ret_i64 ?_, rfl⟩
    have hb0 : b = 0 := by simpa using h
    subst hb0; decide
  · have h0 : n = false := by assumption
    have h : ((b : Int) == 9223372036854775808) = true := by assumption
    go_ret
    refine ⟨ret_i64 ?_, rfl⟩
    have hb0 : b = 9223372036854775808 := by have := beq_iff_eq.1 h; omega
    subst hb0; decide
  · have h0 : n = false := by assumption
    have h1 : ((b : Int) == 0) = false := by assumption
    have h2 : ((b : Int) == 9223372036854775808) = false := by assumption
    have H1 : Hid (b ≠ 0) := by have := beq_eq_false_iff_ne.1 h1; show b ≠ 0; omega
    have H2 : Hid (b ≠ 9223372036854775808) := by have := beq_eq_false_iff_ne.1 h2; show b ≠ _; omega
    have H0 : Hid (isNaN b = false) := by rw [← HN.out]; exact h0
    refine (isinf_neg b _ hb).mono ?_
    rintro e w1 ⟨rfl, rfl⟩
    generalize hq : (!isNaN b && decide (rung b = 9218868437227405312) && isNeg b) = q
    have HQ := Lib.hid hq; clear hq
    go_wp2_with fail
    · have h : q = true := by assumption
      go_ret
      refine ⟨ret_i64 ?_, rfl⟩
      have := HQ.out; rw [h, H0.out] at this; simp at this
      unfold cls; rw [H0.out, this.1, this.2]; rfl
    · have h : q = false := by assumption
      refine (isinf_pos b _ hb).mono ?_
      rintro e w1 ⟨rfl, rfl⟩
      generalize hq2 : (!isNaN b && decide (rung b = 9218868437227405312) && !isNeg b) = q2
      have HQ2 := Lib.hid hq2; clear hq2
      have e0 : isNaN 0 = false := by decide
      have e1 : ikey 0 = 0 := by decide
      go_wp2_with fail
      · have h : q2 = true := by assumption
        go_ret
        refine ⟨ret_i64 ?_, rfl⟩
        have := HQ2.out; rw [h, H0.out] at this; simp at this
        unfold cls; rw [H0.out, this.1, this.2]; rfl
      all_goals
        have h3 : q2 = false := by assumption
        have hr0 : rung b ≠ 0 := by
          have a0 := HW.out; have a1 := H1.out; have a2 := H2.out
          intro e; rw [e] at a0; revert a0
          cases isNeg b <;> simp <;> omega
        have hri : rung b ≠ 9218868437227405312 := by
          intro e
          have a1 := HQ.out; have a2 := HQ2.out
          rw [h, H0.out, e] at a1; rw [h3, H0.out, e] at a2
          revert a1 a2; cases isNeg b <;> simp
        have hl := HL.out
        rw [H0.out, e0, e1] at hl
        unfold ikey at hl
        go_ret
        refine ⟨ret_i64 ?_, rfl⟩
        unfold cls
        rw [H0.out, if_neg (by simp), if_neg hr0, if_neg hri]
        cases hng : isNeg b
        · rw [hng] at hl
          have hl' : l = false := by rw [hl]; simp
          first | rfl | (exfalso; exact Bool.noConfusion ((show l = true by assumption).symm.trans hl'))
        · rw [hng] at hl
          have hl' : l = true := by rw [hl]; simp; omega
          first | rfl | (exfalso; exact Bool.noConfusion ((show l = false by assumption).symm.trans hl'))
end Go.Proofs.YtjhhpcjnhjbpdaaGreat

/- Contracts of the num package's functions: sizes and signs. -/
set_option linter.unusedSimpArgs false
set_option linter.unusedVariables false
namespace Go.Proofs.YtjhhpcjnhjbpdaaGreat
open Go.RowKit Mo
theorem ret_u64 {a b : Int} (h : a = b) : Ending.returned (.int .u64 a) = .returned (.int .u64 b) := by rw [h]
theorem ret_two {a b c d : Int} (h : a = c) (h2 : b = d) : Ending.returned (.tuple #[.int .i64 a, .int .i64 b]) = .returned (.tuple #[.int .i64 c, .int .i64 d]) := by rw [h, h2]
theorem wrap_u64 (n : Int) : IntKind.u64.wrap n = n % 18446744073709551616 := by simp [IntKind.wrap, IntKind.signed, IntKind.bits]
theorem wrap_i64 (n : Int) : wrap64 n = (n + 9223372036854775808) % 18446744073709551616 - 9223372036854775808 := by unfold wrap64; omega
set_option maxHeartbeats 400000 in
theorem size_any (n : Int) (w : World) (h1 : -9223372036854775808 ≤ n) (h2 : n ≤ 9223372036854775807) :
    Calls Tryz.prog 68 #[.int .i64 n] w fun e w' => e = .returned (.int .u64 n.natAbs) ∧ w = w' := by
  go_enter Tryz.func68, Tryz.ntmps68
  go_wp2
  all_goals go_ret
  all_goals refine ⟨ret_u64 ?_, rfl⟩
  · rw [wrap_u64, wrap_u64]; omega
  · omega
set_option maxRecDepth 100000 in
set_option maxHeartbeats 400000 in
theorem signed_any (neg : Bool) (q : Int) (w : World) (h0 : 0 ≤ q) (h2 : q < 18446744073709551616) :
    Calls Tryz.prog 70 #[.bool neg, .int .u64 q] w fun e w' => e = .returned (.tuple #[.int .i64 (if pfit neg q.toNat then (if neg then -q else q) else 0), .int .i64 (if pfit neg q.toNat then 0 else 11)]) ∧ w = w' := by
  cases neg
  · by_cases h : q < 9223372036854775808
    · have hd : decide (q < 9223372036854775808) = true := by simp; omega
      have hp : pfit false q.toNat = true := by unfold pfit; simp; omega
      rw [hp]; clear h2 hp
      go_enter Tryz.func70, Tryz.ntmps70
      go_wp2
      go_ret2
      refine ⟨ret_two ?_ rfl, rfl⟩
      have := of_decide_eq_true hd
      first | rfl | (simp [wrap_i64]; omega)
    · have hd : decide (q < 9223372036854775808) = false := by simp; omega
      have hp : pfit false q.toNat = false := by unfold pfit; simp; omega
      rw [hp]; clear h2 hp
      go_enter Tryz.func70, Tryz.ntmps70
      go_wp2
      go_ret2
      exact ⟨rfl, rfl⟩
  · by_cases h : q ≤ 9223372036854775808
    · have hd : decide (q ≤ 9223372036854775808) = true := by simp; omega
      have hp : pfit true q.toNat = true := by unfold pfit; simp; omega
      rw [hp]; clear h2 hp
      go_enter Tryz.func70, Tryz.ntmps70
      go_wp2
      go_ret2
      refine ⟨ret_two ?_ rfl, rfl⟩
      have := of_decide_eq_true hd
      first | rfl | (simp [wrap_i64]; omega)
    · have hd : decide (q ≤ 9223372036854775808) = false := by simp; omega
      have hp : pfit true q.toNat = false := by unfold pfit; simp; omega
      rw [hp]; clear h2 hp
      go_enter Tryz.func70, Tryz.ntmps70
      go_wp2
      go_ret2
      exact ⟨rfl, rfl⟩
end Go.Proofs.YtjhhpcjnhjbpdaaGreat

/- Contracts of the num package's functions: Frexp, Ldexp of a normal number. -/
set_option linter.unusedSimpArgs false
set_option linter.unusedVariables false
namespace Go.Proofs.YtjhhpcjnhjbpdaaGreat
open Go.RowKit Mo
theorem ret_f64 {a b : Nat} (h : a = b) : Ending.returned (.float .f64 a) = .returned (.float .f64 b) := by rw [h]
theorem ret_fi {a b : Nat} {c d : Int} (h : a = b) (h2 : c = d) : Ending.returned (.tuple #[.float .f64 a, .int .i64 c]) = .returned (.tuple #[.float .f64 b, .int .i64 d]) := by rw [h, h2]
theorem rung_lt (b : Nat) : rung b < 9223372036854775808 := Nat.mod_lt _ (by decide)
set_option maxRecDepth 100000 in
set_option maxHeartbeats 400000 in
theorem abs_any (b : Nat) (w : World) (hb : b < 18446744073709551616) : Calls Tryz.prog 98 #[.float .f64 b] w fun e w' => e = .returned (.float .f64 (rung b)) ∧ w = w' := by
  have hr := run_bits
  have hf := run_frombits
  go_enter Tryz.func98, Tryz.ntmps98
  go_wp2
  go_ret
  refine ⟨ret_f64 ?_, rfl⟩
  rw [sign_off b hb]; rfl
theorem isnan_any (b : Nat) (w : World) (hb : b < 18446744073709551616) : Calls Tryz.prog 99 #[.float .f64 b] w fun e w' => e = .returned (.bool (isNaN b)) ∧ w = w' := by
  go_enter Tryz.func99, Tryz.ntmps99
  go_wp2
  go_ret
  refine ⟨?_, rfl⟩
  show Ending.returned (.bool (FloatKind.f64.format.order b b != some Ordering.eq)) = _
  rw [f_ne_self hb]
theorem rung_rung (b : Nat) : rung (rung b) = rung b := Nat.mod_mod _ _
theorem ikey_rung (b : Nat) : ikey (rung b) = rung b := by
  have : isNeg (rung b) = false := by unfold isNeg; have := rung_lt b; simp; omega
  unfold ikey; rw [this, rung_rung]; simp
theorem isNaN_rung (b : Nat) : isNaN (rung b) = isNaN b := by unfold isNaN; rw [rung_rung]
set_option maxRecDepth 100000 in
set_option maxHeartbeats 400000 in
theorem isinf_any (b : Nat) (w : World) (hb : b < 18446744073709551616) : Calls Tryz.prog 81 #[.float .f64 b, .int .i64 0] w fun e w' => e = .returned (.bool (!isNaN b && decide (rung b = 9218868437227405312))) ∧ w = w' := by
  go_enter Tryz.func81, Tryz.ntmps81
  go_wp2_with (go_at_call 98; refine (abs_any b _ hb).mono ?_; rintro e w1 ⟨rfl, rfl⟩)
  go_ret
  refine ⟨?_, rfl⟩
  show Ending.returned (.bool (FloatKind.f64.format.order (rung b) 9218868437227405311 == some Ordering.gt)) = _
  have := rung_lt b
  rw [f_gt (by omega) (by decide), isNaN_rung, ikey_rung]
  congr 2
  have e1 : ikey 9218868437227405311 = 9218868437227405311 := by decide
  have e2 : isNaN 9218868437227405311 = false := by decide
  rw [e1, e2, Bool.eq_iff_iff]
  unfold isNaN
  simp; omega
set_option maxRecDepth 100000 in
set_option maxHeartbeats 400000 in
theorem normalize_normal (b : Nat) (w : World) (hb : b < 18446744073709551616) (h : 4503599627370496 ≤ rung b) : Calls Tryz.prog 100 #[.float .f64 b] w fun e w' => e = .returned (.tuple #[.float .f64 b, .int .i64 0]) ∧ w = w' := by
  have hd : (FloatKind.f64.format.order (rung b) 4503599627370496 == some Ordering.lt) = false := by
    have := rung_lt b
    rw [f_lt (by omega) (by decide), ikey_rung, show ikey 4503599627370496 = 4503599627370496 by decide]
    have : decide ((rung b : Int) < 4503599627370496) = false := by simp; omega
    rw [this, Bool.and_false]
  clear h
  go_enter Tryz.func100, Tryz.ntmps100
  go_wp2_with (go_at_call 98; refine (abs_any b _ hb).mono ?_; rintro e w1 ⟨rfl, rfl⟩)
  go_ret2
  exact ⟨rfl, rfl⟩
set_option maxRecDepth 100000 in
set_option maxHeartbeats 400000 in
theorem normalize_any (b : Nat) (w : World) (hb : b < 18446744073709551616) (h0 : 0 < rung b) (h2 : rung b < 9218868437227405312) : Calls Tryz.prog 100 #[.float .f64 b] w fun e w' => e = .returned (.tuple #[.float .f64 (nrm b), .int .i64 (nrx b)]) ∧ w = w' := by
  by_cases h : rung b < 4503599627370496
  · have hd : (FloatKind.f64.format.order (rung b) 4503599627370496 == some Ordering.lt) = true := by
      have := rung_lt b
      have hn : isNaN (rung b) = false := by rw [isNaN_rung]; unfold isNaN; simp; omega
      rw [f_lt (by omega) (by decide), ikey_rung, show ikey 4503599627370496 = 4503599627370496 by decide, hn, show isNaN 4503599627370496 = false by decide]
      have : decide ((rung b : Int) < 4503599627370496) = true := by simp; omega
      rw [this]; rfl
    have hm : ∀ w : World, (binOp .mul 22 (.float .f64 b) (.float .f64 4841369599423283200)).run Tryz.prog w = .ok (.float .f64 (nrm b)) w :=
      fun w => run_float_arith w _ _ _ _ _ _ (mul_up b hb h0 h)
    have hx : nrx b = -52 := by unfold nrx; rw [if_pos h]
    rw [hx]
    generalize nrm b = N at hm ⊢
    clear h h0 h2 hx
    go_enter Tryz.func100, Tryz.ntmps100
    go_wp2_with (go_at_call 98; refine (abs_any b _ hb).mono ?_; rintro e w1 ⟨rfl, rfl⟩)
    all_goals go_ret2
    all_goals exact ⟨rfl, rfl⟩
  · have hx : nrx b = 0 := by unfold nrx; rw [if_neg h]
    have hn : nrm b = b := by unfold nrm; rw [if_neg h]
    rw [hx, hn]
    exact normalize_normal b w hb (by omega)
set_option maxRecDepth 100000 in
set_option maxHeartbeats 800000 in
/-- a normal number's fraction and exponent -/
theorem frexp_any (b c F : Nat) (x n0 : Int) (w : World) (hb : b < 18446744073709551616) (h0 : 0 < rung b) (h2 : rung b < 9218868437227405312)
    (hc : c = nrm b) (hn0 : n0 = nrx b)
    (hF : F = (if isNeg c then 9223372036854775808 else 0) + 1022 * 4503599627370496 + rung c % 4503599627370496) (hx : x = nrx b + (rung c / 4503599627370496 : Nat) - 1022) :
    Calls Tryz.prog 84 #[.float .f64 b] w fun e w' => e = .returned (.tuple #[.float .f64 F, .int .i64 x]) ∧ w = w' := by
  have hr := run_bits
  have hf := run_frombits
  have hd : (FloatKind.f64.format.order b 0 == some Ordering.eq) = false := by
    rw [f_eq hb (by decide), show ikey 0 = 0 by decide]
    have : decide (ikey b = 0) = false := by unfold ikey; simp; cases isNeg b <;> simp <;> omega
    rw [this, Bool.and_false]
  have hn : isNaN b = false := by unfold isNaN; simp; omega
  have hq : decide (rung b = 9218868437227405312) = false := by simp; omega
  have hnx : nrx b = -52 ∨ nrx b = 0 := by unfold nrx; split <;> simp
  rw [← hn0] at hx hnx
  have H0 := Lib.hid h0; have H2 := Lib.hid h2; have HF := Lib.hid hF; have HX := Lib.hid hx; have HC := Lib.hid hc; have HN0 := Lib.hid hn0; have HNX := Lib.hid hnx; clear h0 h2 hF hx hc hn0 hnx
  go_enter Tryz.func84, Tryz.ntmps84
  go_wp2_with (first | (go_at_call 81; refine (isinf_any b _ hb).mono ?_; rintro e w1 ⟨rfl, rfl⟩; rw [hn, hq]) | (go_at_call 99; refine (isnan_any b _ hb).mono ?_; rintro e w1 ⟨rfl, rfl⟩; rw [hn]) | (go_at_call 100; refine (normalize_any b _ hb H0.out H2.out).mono ?_; rintro e w1 ⟨rfl, rfl⟩; rw [← HC.out, ← HN0.out]))
  go_ret2
  have hs := nrm_spec b hb H0.out H2.out
  rw [← HC.out] at hs
  have hcb := hs.1
  refine ⟨ret_fi ?_ ?_, rfl⟩
  · rw [HF.out]; exact congrArg Int.toNat (field_lay c 1022 hcb (by decide))
  · have e := field_of c hcb
    have h1 := hs.2.2.1
    rw [show ((c / 4503599627370496 : Nat) : Int) = (c : Int) / 4503599627370496 by omega] at e
    rw [HX.out, e]
    have : rung c / 4503599627370496 < 2047 := by omega
    generalize rung c / 4503599627370496 = y at *
    rcases HNX.out with e2 | e2 <;> rw [e2] <;> simp [wrap_i64] <;> omega
set_option maxRecDepth 100000 in
set_option maxHeartbeats 800000 in
theorem Frexp_any (b c F : Nat) (x n0 : Int) (w : World) (hb : b < 18446744073709551616) (h0 : 0 < rung b) (h2 : rung b < 9218868437227405312)
    (hc : c = nrm b) (hn0 : n0 = nrx b)
    (hF : F = (if isNeg c then 9223372036854775808 else 0) + 1022 * 4503599627370496 + rung c % 4503599627370496) (hx : x = nrx b + (rung c / 4503599627370496 : Nat) - 1022) :
    Calls Tryz.prog 65 #[.float .f64 b] w fun e w' => e = .returned (.tuple #[.float .f64 F, .int .i64 x]) ∧ w = w' := by
  have H0 := Lib.hid h0; have H2 := Lib.hid h2; have HF := Lib.hid hF; have HX := Lib.hid hx; have HC := Lib.hid hc; have HN0 := Lib.hid hn0; clear h0 h2 hF hx hc hn0
  go_enter Tryz.func65, Tryz.ntmps65
  go_wp2_with (go_at_call 84; refine (frexp_any b c F x n0 _ hb H0.out H2.out HC.out HN0.out HF.out HX.out).mono ?_; rintro e w1 ⟨rfl, rfl⟩)
  go_ret2
  exact ⟨rfl, rfl⟩
set_option maxRecDepth 100000 in
set_option maxHeartbeats 800000 in
/-- a fraction of 2^-1 to 1, 53 places up -/
theorem ldexp_frac (b L : Nat) (w : World) (hb : b < 18446744073709551616) (h : rung b / 4503599627370496 = 1022)
    (hL : L = (if isNeg b then 9223372036854775808 else 0) + 1075 * 4503599627370496 + rung b % 4503599627370496) :
    Calls Tryz.prog 86 #[.float .f64 b, .int .i64 53] w fun e w' => e = .returned (.float .f64 L) ∧ w = w' := by
  have hr := run_bits
  have hf := run_frombits
  have hd : (FloatKind.f64.format.order b 0 == some Ordering.eq) = false := by
    rw [f_eq hb (by decide), show ikey 0 = 0 by decide]
    have : decide (ikey b = 0) = false := by unfold ikey; simp; cases isNeg b <;> simp <;> omega
    rw [this, Bool.and_false]
  have hn : isNaN b = false := by unfold isNaN; simp; omega
  have hq : decide (rung b = 9218868437227405312) = false := by simp; omega
  have he : wrap64 (53 + wrap64 (bits .and .i64 ((b : Int) / 4503599627370496) 2047 - 1023)) = 52 := by
    have : ((b : Int) / 4503599627370496) % 2048 = 1022 := by unfold rung at h; omega
    rw [i64_and2047, this]; simp [wrap_i64]
  have hl : (bits .or .u64 (bits .andNot .u64 (b : Int) 9218868437227405312) 4841369599423283200).toNat = L := by
    rw [hL]; exact congrArg Int.toNat (field_lay b 1075 hb (by decide))
  have hL2 : L < 18446744073709551616 ∧ rung L / 4503599627370496 = 1075 := by
    rw [hL]; unfold rung; cases isNeg b <;> simp <;> omega
  have hm : ∀ w : World, (binOp .mul 22 (.float .f64 4607182418800017408) (.float .f64 L)).run Tryz.prog w = .ok (.float .f64 L) w :=
    fun w => run_float_arith w _ _ _ _ _ _ (mul_one_frac L hL2.1 hL2.2)
  have H := Lib.hid h; have HL := Lib.hid hL; clear h hL hL2
  go_enter Tryz.func86, Tryz.ntmps86
  go_wp2_with (first | (go_at_call 81; refine (isinf_any b _ hb).mono ?_; rintro e w1 ⟨rfl, rfl⟩; rw [hn, hq]) | (go_at_call 99; refine (isnan_any b _ hb).mono ?_; rintro e w1 ⟨rfl, rfl⟩; rw [hn]) | (go_at_call 100; refine (normalize_normal b _ hb (by have := H.out; omega)).mono ?_; rintro e w1 ⟨rfl, rfl⟩))
  go_ret
  exact ⟨rfl, rfl⟩
set_option maxRecDepth 100000 in
set_option maxHeartbeats 800000 in
theorem Ldexp_frac (b L : Nat) (w : World) (hb : b < 18446744073709551616) (h : rung b / 4503599627370496 = 1022)
    (hL : L = (if isNeg b then 9223372036854775808 else 0) + 1075 * 4503599627370496 + rung b % 4503599627370496) :
    Calls Tryz.prog 66 #[.float .f64 b, .int .i64 53] w fun e w' => e = .returned (.float .f64 L) ∧ w = w' := by
  have H := Lib.hid h; have HL := Lib.hid hL; clear h hL
  go_enter Tryz.func66, Tryz.ntmps66
  go_wp2_with (go_at_call 86; refine (ldexp_frac b L _ hb H.out HL.out).mono ?_; rintro e w1 ⟨rfl, rfl⟩)
  go_ret
  exact ⟨rfl, rfl⟩
end Go.Proofs.YtjhhpcjnhjbpdaaGreat

/- Contracts of the num package's functions: the lowest bits taken off. -/
set_option linter.unusedSimpArgs false
set_option linter.unusedVariables false
namespace Go.Proofs.YtjhhpcjnhjbpdaaGreat
open Go.RowKit Mo
theorem shift_up (x : Int) (j : Nat) (y : Nat) (h : x = y) : IntKind.u64.wrap (x * 2 ^ j) = (y * 2 ^ j % 18446744073709551616 : Nat) := by
  rw [wrap_u64, h, show ((2 : Int) ^ j) = ((2 ^ j : Nat) : Int) from (Int.natCast_pow 2 j).symm, ← Int.natCast_mul]
  exact (Int.natCast_emod _ _).symm
theorem shift_down (x : Int) (j : Nat) (y : Nat) (h : x = y) : x / 2 ^ j = (y / 2 ^ j : Nat) := by
  rw [h, show ((2 : Int) ^ j) = ((2 ^ j : Nat) : Int) from (Int.natCast_pow 2 j).symm]
  exact (Int.natCast_ediv _ _).symm
theorem nat_zero {n : Nat} : (n : Int) = 0 ↔ n = 0 := by omega
theorem nat_zero' {n : Nat} : (n : Int) ≠ 0 ↔ n ≠ 0 := by omega
set_option maxRecDepth 100000 in
set_option maxHeartbeats 400000 in
theorem down_any (P k : Nat) (hP : P < 1329227995784915872903807060280344576) (hP0 : 0 < P) (hk0 : 0 < k) (hk : k < 2000) (hi lo by_ : Int) (w : World)
    (e1 : hi = (P / 18446744073709551616 : Nat)) (e2 : lo = (P % 18446744073709551616 : Nat)) (e3 : by_ = k) :
    Calls Tryz.prog 71 #[.int .u64 hi, .int .u64 lo, .int .u64 by_] w fun e w' => ∃ q r f, e = .returned (.tuple #[.int .u64 q, .bool r, .bool f]) ∧ w = w' ∧ DownIs P k q r f := by
  have a0 : 0 ≤ hi := by omega
  have a1 : hi < 18446744073709551616 := by omega
  have b0 : 0 ≤ lo := by omega
  have b1 : lo < 18446744073709551616 := by omega
  have c0 : 0 < by_ := by omega
  have c1 : by_ < 2000 := by omega
  have E1 := Lib.hid e1; have E2 := Lib.hid e2; have E3 := Lib.hid e3
  have HP := Lib.hid hP; have HP0 := Lib.hid hP0
  clear e1 e2 e3 hP hP0
  rcases (show 128 ≤ by_ ∨ (64 < by_ ∧ by_ < 128) ∨ by_ = 64 ∨ by_ < 64 by omega) with h | ⟨h, h'⟩ | rfl | h
  · go_enter Tryz.func71, Tryz.ntmps71
    go_wp2
    go_ret3
    refine ⟨_, _, _, rfl, rfl, ?_⟩
    exact down_all P k HP.out HP0.out (by have := E3.out; omega)
  · go_enter Tryz.func71, Tryz.ntmps71
    go_wp2
    all_goals go_ret3
    all_goals refine ⟨_, _, _, rfl, rfl, ?_⟩
    · have hz : IntKind.u64.wrap (hi * 2 ^ (128 - by_).toNat) = 0 := by assumption
      have hk1 := E3.out
      rw [shift_up _ _ _ E1.out, show (128 - by_).toNat = 64 - (k - 64) by omega, low_zero _ _ (by omega)] at hz
      rw [shift_down _ _ _ E1.out, show (by_ - 64).toNat = k - 64 by omega]
      refine down_over P k HP.out (by omega) (by omega) _ ?_
      rw [E2.out]
      have hz2 : P / 18446744073709551616 % 2 ^ (k - 64) = 0 := by
        have hz3 : P / 18446744073709551616 % 2 ^ (k - 64) * 2 ^ (64 - (k - 64)) = 0 := nat_zero.1 hz
        rcases Nat.mul_eq_zero.1 hz3 with e | e
        · exact e
        · have := Nat.two_pow_pos (64 - (k - 64)); omega
      rw [hz2]; simp; omega
    · have hz : ¬ IntKind.u64.wrap (hi * 2 ^ (128 - by_).toNat) = 0 := by assumption
      have hk1 := E3.out
      rw [shift_up _ _ _ E1.out, show (128 - by_).toNat = 64 - (k - 64) by omega, low_zero _ _ (by omega)] at hz
      rw [shift_down _ _ _ E1.out, show (by_ - 64).toNat = k - 64 by omega]
      refine down_over P k HP.out (by omega) (by omega) _ ?_
      have hz2 : P / 18446744073709551616 % 2 ^ (k - 64) ≠ 0 := by
        intro e; rw [e] at hz; simp at hz
      simp [hz2]
  · go_enter Tryz.func71, Tryz.ntmps71
    go_wp2
    go_ret3
    refine ⟨_, _, _, rfl, rfl, ?_⟩
    have hk1 : k = 64 := by have := E3.out; omega
    subst hk1
    have := down_over P 64 HP.out (by decide) (by decide) (lo != 0) (by rw [E2.out, show (64 : Nat) - 64 = 0 by decide, Nat.pow_zero, Nat.mod_one]; simp; omega)
    rw [show (64 : Nat) - 64 = 0 by decide, Nat.pow_zero, Nat.div_one, ← E1.out] at this
    exact this
  · go_enter Tryz.func71, Tryz.ntmps71
    go_wp2
    go_ret3
    refine ⟨_, _, _, rfl, rfl, ?_⟩
    have hk1 := E3.out
    rw [shift_up _ _ _ E1.out, shift_up _ _ _ E2.out, shift_down _ _ _ E1.out, shift_down _ _ _ E2.out, show (64 - by_).toNat = 64 - k by omega, show by_.toNat = k by omega]
    exact down_under P k HP.out (by omega) _ _ _ rfl (bne_iff_ne.trans nat_zero') (beq_iff_eq.trans nat_zero)
end Go.Proofs.YtjhhpcjnhjbpdaaGreat

/- Contracts of the num package's functions: the product. -/
set_option linter.unusedSimpArgs false
set_option linter.unusedVariables false
namespace Go.Proofs.YtjhhpcjnhjbpdaaGreat
open Go.RowKit Mo
theorem size_is (n : Int) (A : Nat) (w : World) (h : A = n.natAbs) (h1 : -9223372036854775808 ≤ n) (h2 : n ≤ 9223372036854775807) :
    Calls Tryz.prog 68 #[.int .i64 n] w fun e w' => e = .returned (.int .u64 A) ∧ w = w' := by
  rw [h]; exact size_any n w h1 h2
theorem mul_is (A B : Nat) (hi lo : Int) (w : World) (h1 : A < 18446744073709551616) (h2 : B < 18446744073709551616) (hh : hi = (A * B / 18446744073709551616 : Nat)) (hl : lo = (A * B % 18446744073709551616 : Nat)) :
    Calls Tryz.prog 67 #[.int .u64 A, .int .u64 B] w fun e w' => e = .returned (.tuple #[.int .u64 hi, .int .u64 lo]) ∧ w' = w := by
  rw [hh, hl]; exact Tryz.bits_Mul64 A B h1 h2 w
theorem len_is (lo len : Int) (w : World) (h : 0 ≤ lo ∧ lo < 18446744073709551616) (hl : len = (Lib.bitLen lo.toNat : Nat)) :
    Calls Tryz.prog 69 #[.int .u64 lo] w fun e w' => e = .returned (.int .i64 len) ∧ w' = w := by
  rw [hl]; exact Tryz.bits_Len64 lo w h.1 (by omega)
theorem signed_is (neg : Bool) (q V E : Int) (Q : Nat) (w : World) (h : q = Q) (hq : Q < 18446744073709551616) (hV : outV neg Q = V) (hE : outE neg Q = E) :
    Calls Tryz.prog 70 #[.bool neg, .int .u64 q] w fun e w' => e = .returned (.tuple #[.int .i64 V, .int .i64 E]) ∧ w = w' := by
  have hq2 : (Q : Int) < 18446744073709551616 := Int.ofNat_lt.2 hq
  have := signed_any neg q w (by rw [h]; exact Int.natCast_nonneg _) (by rw [h]; exact hq2)
  rw [h, Int.toNat_natCast] at this
  rw [h, ← hV, ← hE]; exact this
set_option maxRecDepth 100000 in
set_option maxHeartbeats 2000000 in
theorem times_core (b c F L A B P : Nat) (n x m hi lo y len V E : Int) (neg : Bool) (w : World) (hb : b < 18446744073709551616) (h0 : 0 < rung b) (h2 : rung b < 9218868437227405312)
    (hn1 : -9223372036854775808 ≤ n) (hn2 : n ≤ 9223372036854775807) (hm1 : -9223372036854775808 ≤ m) (hm2 : m ≤ 9223372036854775807)
    (hc : c = nrm b)
    (hF : F = (if isNeg c then 9223372036854775808 else 0) + 1022 * 4503599627370496 + rung c % 4503599627370496) (hx : x = nrx b + (rung c / 4503599627370496 : Nat) - 1022)
    (hFB : F < 18446744073709551616 ∧ rung F / 4503599627370496 = 1022)
    (hL : L = (if isNeg F then 9223372036854775808 else 0) + 1075 * 4503599627370496 + rung F % 4503599627370496)
    (hmv : ∀ w : World, (convert 22 2 (.float .f64 L)).run Tryz.prog w = .ok (.int .i64 m) w)
    (hneg : (!(decide (n < 0) == decide (m < 0))) = neg) (hy : wrap64 (x - 53) = y) (hy1 : -2000 < y) (hy2 : y < 2000)
    (hA : A = n.natAbs) (hB : B = m.natAbs) (hAB : A < 18446744073709551616 ∧ B < 18446744073709551616)
    (hP : P = A * B) (hP2 : P < 1329227995784915872903807060280344576) (hhi : hi = (A * B / 18446744073709551616 : Nat)) (hlo : lo = (A * B % 18446744073709551616 : Nat))
    (hlen : (0 ≤ lo ∧ lo < 18446744073709551616) ∧ len = (Lib.bitLen lo.toNat : Nat)) (hlen2 : 0 ≤ len ∧ len ≤ 64)
    (hV : outV neg (outQ neg P y) = V) (hE : outE neg (outQ neg P y) = E) :
    Calls Tryz.prog 53 #[.int .i64 n, .float .f64 b] w fun e w' => e = .returned (.tuple #[.int .i64 V, .int .i64 E]) ∧ w = w' := by
  have hcl : cls b = 2 ∨ cls b = 5 := by
    have hn : isNaN b = false := by unfold isNaN; simp; omega
    unfold cls
    rw [hn, if_neg (by simp), if_neg (by omega), if_neg (by omega)]
    cases isNeg b <;> simp
  obtain ⟨k, hk⟩ : ∃ k, cls b = k := ⟨_, rfl⟩
  have H0 := Lib.hid h0; have H2 := Lib.hid h2; have HF := Lib.hid hF; have HX := Lib.hid hx; have HC := Lib.hid hc; have HL := Lib.hid hL
  have HA := Lib.hid hA; have HB := Lib.hid hB; have HAB := Lib.hid hAB; have HP := Lib.hid hP; have HP2 := Lib.hid hP2; have HHI := Lib.hid hhi; have HLO := Lib.hid hlo; have HLEN := Lib.hid hlen
  have HK := Lib.hid hk; have HFB := Lib.hid hFB
  have HV := Lib.hid hV; have HE := Lib.hid hE
  have l0 : 0 ≤ lo := hlen.1.1
  have l1 : lo < 18446744073709551616 := hlen.1.2
  have i0 : 0 ≤ hi := by rw [hhi]; exact Int.natCast_nonneg _
  rw [hk] at hcl
  have hk0 : (k == 0) = false := by rcases hcl with rfl | rfl <;> rfl
  have hk1 : (k == 1) = false := by rcases hcl with rfl | rfl <;> rfl
  have hk6 : (k == 6) = false := by rcases hcl with rfl | rfl <;> rfl
  clear h0 h2 hF hx hc hL hk hA hB hAB hP hP2 hhi hlo hlen hFB hV hE hcl
  rcases (show hi = 0 ∧ lo = 0 ∨ hi = 0 ∧ lo ≠ 0 ∨ hi ≠ 0 by omega) with ⟨rfl, rfl⟩ | ⟨rfl, hlo⟩ | hhi
  · have hV2 : V = 0 ∧ E = 0 := by
      have : P = 0 := by have a := HHI.out; have b := HLO.out; rw [HP.out]; omega
      have := out_none neg y
      rw [← HV.out, ← HE.out, ‹P = 0›]; exact this
    obtain ⟨rfl, rfl⟩ := hV2
    go_enter Tryz.func53, Tryz.ntmps53
    go_wp2_with (first | (go_at_call 63; refine (class_any b _ hb).mono ?_; rintro e w1 ⟨rfl, rfl⟩; rw [HK.out]) | (go_at_call 65; refine (Frexp_any b c F x (nrx b) _ hb H0.out H2.out HC.out rfl HF.out HX.out).mono ?_; rintro e w1 ⟨rfl, rfl⟩) | (go_at_call 66; refine (Ldexp_frac F L _ HFB.out.1 HFB.out.2 HL.out).mono ?_; rintro e w1 ⟨rfl, rfl⟩) | (go_at_call 68; refine (size_any _ _ (by assumption) (by assumption)).mono ?_; rintro e w1 ⟨rfl, rfl⟩; first | rw [← HA.out] | rw [← HB.out]) | (go_at_call 67; refine (mul_is A B _ _ _ HAB.out.1 HAB.out.2 HHI.out HLO.out).mono ?_; rintro e w1 ⟨rfl, rfl⟩) | (go_at_call 69; refine (len_is _ len _ HLEN.out.1 HLEN.out.2).mono ?_; rintro e w1 ⟨rfl, rfl⟩))
    all_goals (go_ret2; exact ⟨rfl, rfl⟩)
  · have hl0 : (lo == 0) = false := by simpa using hlo
    have HP0 : Hid (0 < P ∧ P < 18446744073709551616 ∧ lo = P) := by
      have a := HHI.out; have b := HLO.out; have c := HP.out
      rw [← c] at a b
      exact (show 0 < P ∧ P < 18446744073709551616 ∧ lo = P by omega)
    clear hlo
    rcases (show 64 ≤ y ∨ (0 ≤ y ∧ y < 64 ∧ 64 < len + y) ∨ (0 ≤ y ∧ y < 64 ∧ len + y ≤ 64) ∨ y < 0 by omega) with hy0 | ⟨hy0, hy3, hy4⟩ | ⟨hy0, hy3, hy4⟩ | hy0
    · have hV2 : V = 0 ∧ E = 11 := by
        rw [← HV.out, ← HE.out]; exact out_big (outQ_far hy0 HP0.out.1)
      obtain ⟨rfl, rfl⟩ := hV2
      go_enter Tryz.func53, Tryz.ntmps53
      go_wp2_with (first | (go_at_call 63; refine (class_any b _ hb).mono ?_; rintro e w1 ⟨rfl, rfl⟩; rw [HK.out]) | (go_at_call 65; refine (Frexp_any b c F x (nrx b) _ hb H0.out H2.out HC.out rfl HF.out HX.out).mono ?_; rintro e w1 ⟨rfl, rfl⟩) | (go_at_call 66; refine (Ldexp_frac F L _ HFB.out.1 HFB.out.2 HL.out).mono ?_; rintro e w1 ⟨rfl, rfl⟩) | (go_at_call 68; refine (size_any _ _ (by assumption) (by assumption)).mono ?_; rintro e w1 ⟨rfl, rfl⟩; first | rw [← HA.out] | rw [← HB.out]) | (go_at_call 67; refine (mul_is A B _ _ _ HAB.out.1 HAB.out.2 HHI.out HLO.out).mono ?_; rintro e w1 ⟨rfl, rfl⟩) | (go_at_call 69; refine (len_is _ len _ HLEN.out.1 HLEN.out.2).mono ?_; rintro e w1 ⟨rfl, rfl⟩))
      all_goals (go_ret2; exact ⟨rfl, rfl⟩)
    · have hV2 : V = 0 ∧ E = 11 := by
        rw [← HV.out, ← HE.out]; refine out_big (outQ_long hy0 HP0.out.1 HP0.out.2.1 ?_)
        have := HLEN.out.2; rw [HP0.out.2.2, Int.toNat_natCast] at this; omega
      obtain ⟨rfl, rfl⟩ := hV2
      go_enter Tryz.func53, Tryz.ntmps53
      go_wp2_with (first | (go_at_call 63; refine (class_any b _ hb).mono ?_; rintro e w1 ⟨rfl, rfl⟩; rw [HK.out]) | (go_at_call 65; refine (Frexp_any b c F x (nrx b) _ hb H0.out H2.out HC.out rfl HF.out HX.out).mono ?_; rintro e w1 ⟨rfl, rfl⟩) | (go_at_call 66; refine (Ldexp_frac F L _ HFB.out.1 HFB.out.2 HL.out).mono ?_; rintro e w1 ⟨rfl, rfl⟩) | (go_at_call 68; refine (size_any _ _ (by assumption) (by assumption)).mono ?_; rintro e w1 ⟨rfl, rfl⟩; first | rw [← HA.out] | rw [← HB.out]) | (go_at_call 67; refine (mul_is A B _ _ _ HAB.out.1 HAB.out.2 HHI.out HLO.out).mono ?_; rintro e w1 ⟨rfl, rfl⟩) | (go_at_call 69; refine (len_is _ len _ HLEN.out.1 HLEN.out.2).mono ?_; rintro e w1 ⟨rfl, rfl⟩))
      all_goals (go_ret2; exact ⟨rfl, rfl⟩)
    · have HQ : Hid (outQ neg P y = P * 2 ^ y.toNat ∧ P * 2 ^ y.toNat < 18446744073709551616) := by
        refine outQ_fits (neg := neg) hy0 HP0.out.1 HP0.out.2.1 ?_
        have := HLEN.out.2; rw [HP0.out.2.2, Int.toNat_natCast] at this; omega
      have HQ2 : Hid (IntKind.u64.wrap (lo * 2 ^ y.toNat) = (P * 2 ^ y.toNat : Nat)) := by
        refine (shift_up lo y.toNat P HP0.out.2.2).trans ?_
        rw [Nat.mod_eq_of_lt HQ.out.2]
      go_enter Tryz.func53, Tryz.ntmps53
      go_wp2_with (first | (go_at_call 63; refine (class_any b _ hb).mono ?_; rintro e w1 ⟨rfl, rfl⟩; rw [HK.out]) | (go_at_call 65; refine (Frexp_any b c F x (nrx b) _ hb H0.out H2.out HC.out rfl HF.out HX.out).mono ?_; rintro e w1 ⟨rfl, rfl⟩) | (go_at_call 66; refine (Ldexp_frac F L _ HFB.out.1 HFB.out.2 HL.out).mono ?_; rintro e w1 ⟨rfl, rfl⟩) | (go_at_call 68; refine (size_any _ _ (by assumption) (by assumption)).mono ?_; rintro e w1 ⟨rfl, rfl⟩; first | rw [← HA.out] | rw [← HB.out]) | (go_at_call 67; refine (mul_is A B _ _ _ HAB.out.1 HAB.out.2 HHI.out HLO.out).mono ?_; rintro e w1 ⟨rfl, rfl⟩) | (go_at_call 69; refine (len_is _ len _ HLEN.out.1 HLEN.out.2).mono ?_; rintro e w1 ⟨rfl, rfl⟩))
      refine (signed_is neg _ V E _ _ HQ2.out HQ.out.2 (by rw [← HQ.out.1]; exact HV.out) (by rw [← HQ.out.1]; exact HE.out)).mono ?_
      rintro e w1 ⟨rfl, rfl⟩
      go_wp2
      go_ret2
      exact ⟨rfl, rfl⟩
    · have HPP : Hid (0 < P) := HP0.out.1
      have hk1 : 0 < (-y).toNat := by omega
      have hk2 : (-y).toNat < 2000 := by omega
      have hk3 : -y = ((-y).toNat : Int) := by omega
      have HK1 := Lib.hid hk1; have HK2 := Lib.hid hk2; have HK3 := Lib.hid hk3; clear hk1 hk2 hk3
      have HY := Lib.hid hy0
      go_enter Tryz.func53, Tryz.ntmps53
      go_wp2_with (first | (go_at_call 63; refine (class_any b _ hb).mono ?_; rintro e w1 ⟨rfl, rfl⟩; rw [HK.out]) | (go_at_call 65; refine (Frexp_any b c F x (nrx b) _ hb H0.out H2.out HC.out rfl HF.out HX.out).mono ?_; rintro e w1 ⟨rfl, rfl⟩) | (go_at_call 66; refine (Ldexp_frac F L _ HFB.out.1 HFB.out.2 HL.out).mono ?_; rintro e w1 ⟨rfl, rfl⟩) | (go_at_call 68; refine (size_any _ _ (by assumption) (by assumption)).mono ?_; rintro e w1 ⟨rfl, rfl⟩; first | rw [← HA.out] | rw [← HB.out]) | (go_at_call 67; refine (mul_is A B _ _ _ HAB.out.1 HAB.out.2 HHI.out HLO.out).mono ?_; rintro e w1 ⟨rfl, rfl⟩) | (go_at_call 69; refine (len_is _ len _ HLEN.out.1 HLEN.out.2).mono ?_; rintro e w1 ⟨rfl, rfl⟩))
      refine (down_any P (-y).toNat HP2.out HPP.out HK1.out HK2.out _ _ _ _ (by rw [HP.out]; exact HHI.out) (by rw [HP.out]; exact HLO.out) HK3.out).mono ?_
      rintro e w1 ⟨q, r, f, rfl, rfl, hd⟩
      have hq0 : 0 ≤ q := hd.1
      have hq1 : q < 18446744073709551616 := hd.2.1
      have HD := Lib.hid hd; clear hd
      have HQ := Lib.hid (outQ_down (neg := neg) (P := P) hy0)
      cases hf : f
      · have hV2 : V = 0 ∧ E = 11 := by
          rw [← HV.out, ← HE.out]; refine out_big ?_
          rw [HQ.out]
          have := HD.out.2.2.1; rw [hf] at this
          have := of_decide_eq_false this.symm; omega
        obtain ⟨rfl, rfl⟩ := hV2
        clear hf
        go_wp2
        all_goals (go_ret2; exact ⟨rfl, rfl⟩)
      · have hd2 := HD.out.2.2.2 hf
        have HQQ : Hid (outQ neg P y = q.toNat + if (r && neg) = true then 1 else 0) := by
          have e : q.toNat = P / 2 ^ (-y).toNat := by rw [hd2.1, Int.toNat_natCast]
          have := HQ.out; rw [← e, ← hd2.2] at this; exact this
        clear hd2
        have hq9 : q = (q.toNat : Int) := by omega
        have HQ9 := Lib.hid hq9; clear hq9
        by_cases hrn : neg = true ∧ r = true
        · obtain ⟨hn9, rfl⟩ := hrn
          have HN9 := Lib.hid hn9
          by_cases hq3 : 9223372036854775808 ≤ q
          · have hV2 : V = 0 ∧ E = 11 := by
              rw [← HV.out, ← HE.out]; refine out_big ?_
              rw [HQQ.out, hn9]; simp; omega
            obtain ⟨rfl, rfl⟩ := hV2
            clear hf
            go_wp2
            all_goals (go_ret2; exact ⟨rfl, rfl⟩)
          · have hq4 : q < 9223372036854775808 := by omega
            clear hf hq3
            subst hn9
            have HS : Hid (q + 1 = (outQ true P y : Nat) ∧ outQ true P y < 18446744073709551616) := by
              show _ ∧ _
              rw [HQQ.out]; simp; omega
            go_wp2_with (go_at_call 70; refine (signed_is _ _ V E (outQ true P y) _ HS.out.1 HS.out.2 HV.out HE.out).mono ?_; rintro e w1 ⟨rfl, rfl⟩)
            go_ret2
            exact ⟨rfl, rfl⟩
        · have hrn2 : (neg = false ∨ neg = true ∧ r = false) := by cases neg <;> cases r <;> simp_all
          have HR2 := Lib.hid hrn2
          clear hf hrn
          have HQR : Hid (q = (outQ neg P y : Nat)) := by
            show q = _
            rw [HQQ.out]; rcases hrn2 with e | ⟨e, e'⟩ <;> rw [e] <;> (try rw [e']) <;> simp <;> omega
          have HQL : Hid (outQ neg P y < 18446744073709551616) := by
            have := HQR.out; show _ < _; omega
          rcases hrn2 with hz | ⟨hz', hz⟩
          · subst hz
            go_wp2_with (go_at_call 70; refine (signed_is _ _ V E (outQ false P y) _ HQR.out HQL.out HV.out HE.out).mono ?_; rintro e w1 ⟨rfl, rfl⟩)
            all_goals (go_ret2; exact ⟨rfl, rfl⟩)
          · subst hz; subst hz'
            go_wp2_with (go_at_call 70; refine (signed_is _ _ V E (outQ true P y) _ HQR.out HQL.out HV.out HE.out).mono ?_; rintro e w1 ⟨rfl, rfl⟩)
            all_goals (go_ret2; exact ⟨rfl, rfl⟩)
  · have hh0 : (hi == 0) = false := by simpa using hhi
    have hh1 : 0 < hi := by omega
    clear hhi i0
    by_cases hy0 : 0 ≤ y
    · have hV2 : V = 0 ∧ E = 11 := by
        have : 18446744073709551616 ≤ P := by
          have a := HHI.out; have b := beq_eq_false_iff_ne.1 hh0; rw [HP.out]
          rcases Nat.lt_or_ge (A * B) 18446744073709551616 with h | h
          · rw [Nat.div_eq_of_lt h] at a; exact absurd a b
          · exact h
        rw [← HV.out, ← HE.out]; exact out_big (outQ_hi hy0 this)
      obtain ⟨rfl, rfl⟩ := hV2
      go_enter Tryz.func53, Tryz.ntmps53
      go_wp2_with (first | (go_at_call 63; refine (class_any b _ hb).mono ?_; rintro e w1 ⟨rfl, rfl⟩; rw [HK.out]) | (go_at_call 65; refine (Frexp_any b c F x (nrx b) _ hb H0.out H2.out HC.out rfl HF.out HX.out).mono ?_; rintro e w1 ⟨rfl, rfl⟩) | (go_at_call 66; refine (Ldexp_frac F L _ HFB.out.1 HFB.out.2 HL.out).mono ?_; rintro e w1 ⟨rfl, rfl⟩) | (go_at_call 68; refine (size_any _ _ (by assumption) (by assumption)).mono ?_; rintro e w1 ⟨rfl, rfl⟩; first | rw [← HA.out] | rw [← HB.out]) | (go_at_call 67; refine (mul_is A B _ _ _ HAB.out.1 HAB.out.2 HHI.out HLO.out).mono ?_; rintro e w1 ⟨rfl, rfl⟩) | (go_at_call 69; refine (len_is _ len _ HLEN.out.1 HLEN.out.2).mono ?_; rintro e w1 ⟨rfl, rfl⟩))
      all_goals (go_ret2; exact ⟨rfl, rfl⟩)
    · have hy0 : y < 0 := by omega
      have HPP : Hid (0 < P) := by
        have a := HHI.out; rw [← HP.out] at a
        show 0 < P
        rcases Nat.eq_zero_or_pos P with h | h
        · rw [h] at a; simp at a; omega
        · exact h
      have hk1 : 0 < (-y).toNat := by omega
      have hk2 : (-y).toNat < 2000 := by omega
      have hk3 : -y = ((-y).toNat : Int) := by omega
      have HK1 := Lib.hid hk1; have HK2 := Lib.hid hk2; have HK3 := Lib.hid hk3; clear hk1 hk2 hk3
      have HY := Lib.hid hy0
      go_enter Tryz.func53, Tryz.ntmps53
      go_wp2_with (first | (go_at_call 63; refine (class_any b _ hb).mono ?_; rintro e w1 ⟨rfl, rfl⟩; rw [HK.out]) | (go_at_call 65; refine (Frexp_any b c F x (nrx b) _ hb H0.out H2.out HC.out rfl HF.out HX.out).mono ?_; rintro e w1 ⟨rfl, rfl⟩) | (go_at_call 66; refine (Ldexp_frac F L _ HFB.out.1 HFB.out.2 HL.out).mono ?_; rintro e w1 ⟨rfl, rfl⟩) | (go_at_call 68; refine (size_any _ _ (by assumption) (by assumption)).mono ?_; rintro e w1 ⟨rfl, rfl⟩; first | rw [← HA.out] | rw [← HB.out]) | (go_at_call 67; refine (mul_is A B _ _ _ HAB.out.1 HAB.out.2 HHI.out HLO.out).mono ?_; rintro e w1 ⟨rfl, rfl⟩) | (go_at_call 69; refine (len_is _ len _ HLEN.out.1 HLEN.out.2).mono ?_; rintro e w1 ⟨rfl, rfl⟩))
      refine (down_any P (-y).toNat HP2.out HPP.out HK1.out HK2.out _ _ _ _ (by rw [HP.out]; exact HHI.out) (by rw [HP.out]; exact HLO.out) HK3.out).mono ?_
      rintro e w1 ⟨q, r, f, rfl, rfl, hd⟩
      have hq0 : 0 ≤ q := hd.1
      have hq1 : q < 18446744073709551616 := hd.2.1
      have HD := Lib.hid hd; clear hd
      have HQ := Lib.hid (outQ_down (neg := neg) (P := P) hy0)
      cases hf : f
      · have hV2 : V = 0 ∧ E = 11 := by
          rw [← HV.out, ← HE.out]; refine out_big ?_
          rw [HQ.out]
          have := HD.out.2.2.1; rw [hf] at this
          have := of_decide_eq_false this.symm; omega
        obtain ⟨rfl, rfl⟩ := hV2
        clear hf
        go_wp2
        all_goals (go_ret2; exact ⟨rfl, rfl⟩)
      · have hd2 := HD.out.2.2.2 hf
        have HQQ : Hid (outQ neg P y = q.toNat + if (r && neg) = true then 1 else 0) := by
          have e : q.toNat = P / 2 ^ (-y).toNat := by rw [hd2.1, Int.toNat_natCast]
          have := HQ.out; rw [← e, ← hd2.2] at this; exact this
        clear hd2
        have hq9 : q = (q.toNat : Int) := by omega
        have HQ9 := Lib.hid hq9; clear hq9
        by_cases hrn : neg = true ∧ r = true
        · obtain ⟨hn9, rfl⟩ := hrn
          have HN9 := Lib.hid hn9
          by_cases hq3 : 9223372036854775808 ≤ q
          · have hV2 : V = 0 ∧ E = 11 := by
              rw [← HV.out, ← HE.out]; refine out_big ?_
              rw [HQQ.out, hn9]; simp; omega
            obtain ⟨rfl, rfl⟩ := hV2
            clear hf
            go_wp2
            all_goals (go_ret2; exact ⟨rfl, rfl⟩)
          · have hq4 : q < 9223372036854775808 := by omega
            clear hf hq3
            subst hn9
            have HS : Hid (q + 1 = (outQ true P y : Nat) ∧ outQ true P y < 18446744073709551616) := by
              show _ ∧ _
              rw [HQQ.out]; simp; omega
            go_wp2_with (go_at_call 70; refine (signed_is _ _ V E (outQ true P y) _ HS.out.1 HS.out.2 HV.out HE.out).mono ?_; rintro e w1 ⟨rfl, rfl⟩)
            go_ret2
            exact ⟨rfl, rfl⟩
        · have hrn2 : (neg = false ∨ neg = true ∧ r = false) := by cases neg <;> cases r <;> simp_all
          have HR2 := Lib.hid hrn2
          clear hf hrn
          have HQR : Hid (q = (outQ neg P y : Nat)) := by
            show q = _
            rw [HQQ.out]; rcases hrn2 with e | ⟨e, e'⟩ <;> rw [e] <;> (try rw [e']) <;> simp <;> omega
          have HQL : Hid (outQ neg P y < 18446744073709551616) := by
            have := HQR.out; show _ < _; omega
          rcases hrn2 with hz | ⟨hz', hz⟩
          · subst hz
            go_wp2_with (go_at_call 70; refine (signed_is _ _ V E (outQ false P y) _ HQR.out HQL.out HV.out HE.out).mono ?_; rintro e w1 ⟨rfl, rfl⟩)
            all_goals (go_ret2; exact ⟨rfl, rfl⟩)
          · subst hz; subst hz'
            go_wp2_with (go_at_call 70; refine (signed_is _ _ V E (outQ true P y) _ HQR.out HQL.out HV.out HE.out).mono ?_; rintro e w1 ⟨rfl, rfl⟩)
            all_goals (go_ret2; exact ⟨rfl, rfl⟩)
end Go.Proofs.YtjhhpcjnhjbpdaaGreat

/- Contracts of the num package's functions: the product of any numbers. -/
set_option linter.unusedSimpArgs false
set_option linter.unusedVariables false
namespace Go.Proofs.YtjhhpcjnhjbpdaaGreat
open Go.RowKit Mo
set_option maxRecDepth 100000 in
set_option maxHeartbeats 1000000 in
theorem times_none (n : Int) (b : Nat) (w : World) (hb : b < 18446744073709551616) (h : 9218868437227405312 ≤ rung b) :
    Calls Tryz.prog 53 #[.int .i64 n, .float .f64 b] w fun e w' => e = .returned (.tuple #[.int .i64 (prodV n b false), .int .i64 (prodE n b false)]) ∧ w = w' := by
  have hv : ∀ E, prodE n b false = E → E ≠ 0 → prodV n b false = 0 := by
    intro E h1 h2; unfold prodV; rw [h1, if_neg h2]
  rcases (show 9218868437227405312 < rung b ∨ rung b = 9218868437227405312 ∧ n = 0 ∨ rung b = 9218868437227405312 ∧ n ≠ 0 by omega) with h1 | ⟨h1, rfl⟩ | ⟨h1, hn⟩
  · have hE : prodE n b false = 10 := by unfold prodE; rw [if_pos h1]
    rw [hE, hv _ hE (by decide)]
    have hk : cls b = 0 := by
      have hn : isNaN b = true := by unfold isNaN; simpa using h1
      unfold cls; rw [hn, if_pos rfl]
    have HK := Lib.hid hk
    clear hk h1 h hv hE
    go_enter Tryz.func53, Tryz.ntmps53
    go_wp2_with (go_at_call 63; refine (class_any b _ hb).mono ?_; rintro e w1 ⟨rfl, rfl⟩; rw [HK.out])
    all_goals (go_ret2; exact ⟨rfl, rfl⟩)
  · have hE : prodE 0 b false = 10 := by unfold prodE; rw [if_neg (by omega), if_pos h1, if_pos rfl]
    rw [hE, hv _ hE (by decide)]
    have hk : cls b = 1 ∨ cls b = 6 := by
      have hn : isNaN b = false := by unfold isNaN; simp; omega
      unfold cls; rw [hn, if_neg (by simp), if_neg (by omega), if_pos h1]; cases isNeg b <;> simp
    rcases hk with hk | hk
    all_goals
      have HK := Lib.hid hk
      clear hk h1 h hv hE
      go_enter Tryz.func53, Tryz.ntmps53
      go_wp2_with (go_at_call 63; refine (class_any b _ hb).mono ?_; rintro e w1 ⟨rfl, rfl⟩; rw [HK.out])
      all_goals (go_ret2; exact ⟨rfl, rfl⟩)
  · have hE : prodE n b false = 11 := by unfold prodE; rw [if_neg (by omega), if_pos h1, if_neg hn]
    rw [hE, hv _ hE (by decide)]
    have hk : cls b = 1 ∨ cls b = 6 := by
      have hn : isNaN b = false := by unfold isNaN; simp; omega
      unfold cls; rw [hn, if_neg (by simp), if_neg (by omega), if_pos h1]; cases isNeg b <;> simp
    have hn2 : (n == 0) = false := by simpa using hn
    rcases hk with hk | hk
    all_goals
      have HK := Lib.hid hk
      clear hk h1 h hv hE hn
      go_enter Tryz.func53, Tryz.ntmps53
      go_wp2_with (go_at_call 63; refine (class_any b _ hb).mono ?_; rintro e w1 ⟨rfl, rfl⟩; rw [HK.out])
      all_goals (go_ret2; exact ⟨rfl, rfl⟩)
theorem mul_zero (A : Nat) (w : World) (h1 : A < 18446744073709551616) :
    Calls Tryz.prog 67 #[.int .u64 A, .int .u64 0] w fun e w' => e = .returned (.tuple #[.int .u64 0, .int .u64 0]) ∧ w' = w := by
  have := mul_is A 0 0 0 w h1 (by decide) (by rw [Nat.mul_zero]; decide) (by rw [Nat.mul_zero]; decide)
  exact this
set_option maxRecDepth 100000 in
set_option maxHeartbeats 1000000 in
theorem times_zero (n : Int) (b : Nat) (w : World) (hn1 : -9223372036854775808 ≤ n) (hn2 : n ≤ 9223372036854775807) (h : b = 0 ∨ b = 9223372036854775808) :
    Calls Tryz.prog 53 #[.int .i64 n, .float .f64 b] w fun e w' => e = .returned (.tuple #[.int .i64 0, .int .i64 0]) ∧ w = w' := by
  have hm : Hid (∀ w : World, (convert 22 2 (.float .f64 b)).run Tryz.prog w = .ok (.int .i64 0) w) := by
    rcases h with rfl | rfl
    · exact fun w => run_convert_float_int w _ _ _ _ _ _ (by kernel_rfl) (by kernel_rfl) (by decide)
    · exact fun w => run_convert_float_int w _ _ _ _ _ _ (by kernel_rfl) (by kernel_rfl) (by decide)
  have hz : (FloatKind.f64.format.order b 0 == some Ordering.eq) = true := by rcases h with rfl | rfl <;> decide
  have hb : b < 18446744073709551616 := by rcases h with rfl | rfl <;> decide
  have hk : Hid (cls b = 4 ∨ cls b = 3) := by rcases h with rfl | rfl; exact Or.inl (by decide); exact Or.inr (by decide)
  have hm0 := hm.out
  obtain ⟨A, hA⟩ : ∃ A, A = n.natAbs := ⟨_, rfl⟩
  have hA2 : A < 18446744073709551616 := by omega
  have HA := Lib.hid hA; have HA2 := Lib.hid hA2; clear hA hA2
  clear h
  rcases hk.out with hk | hk
  all_goals
    have HK := Lib.hid hk
    clear hk
    go_enter Tryz.func53, Tryz.ntmps53
    go_wp2_with (first | (go_at_call 63; refine (class_any b _ hb).mono ?_; rintro e w1 ⟨rfl, rfl⟩; rw [HK.out]) | (go_at_call 65; go_in) | (go_at_call 84; go_in) | (go_at_call 66; go_in) | (go_at_call 86; go_in) | (go_at_call 68; refine (size_any _ _ (by first | assumption | decide) (by first | assumption | decide)).mono ?_; rintro e w1 ⟨rfl, rfl⟩; try rw [← HA.out]) | (go_at_call 67; refine (mul_zero A _ HA2.out).mono ?_; rintro e w1 ⟨rfl, rfl⟩))
    all_goals (go_ret2; exact ⟨rfl, rfl⟩)
set_option maxRecDepth 100000 in
set_option maxHeartbeats 1000000 in
/-- the product is the document's -/
theorem times_any (n : Int) (b : Nat) (w : World) (hn1 : -9223372036854775808 ≤ n) (hn2 : n ≤ 9223372036854775807) (hb : b < 18446744073709551616) :
    Calls Tryz.prog 53 #[.int .i64 n, .float .f64 b] w fun e w' => e = .returned (.tuple #[.int .i64 (prodV n b false), .int .i64 (prodE n b false)]) ∧ w = w' := by
  rcases (show 9218868437227405312 ≤ rung b ∨ rung b = 0 ∨ 0 < rung b ∧ rung b < 9218868437227405312 by omega) with h | h | ⟨h0, h2⟩
  · exact times_none n b w hb h
  · rw [(prod_zero n b h).1, (prod_zero n b h).2]
    exact times_zero n b w hn1 hn2 (by unfold rung at h; omega)
  · obtain ⟨c1, c2, c3, c4⟩ := nrm_spec b hb h0 h2
    have hM : rung (nrm b) % 4503599627370496 < 4503599627370496 := Nat.mod_lt _ (by decide)
    have hX : rung (nrm b) / 4503599627370496 < 2047 := by omega
    have hX0 : 1 ≤ rung (nrm b) / 4503599627370496 := by omega
    have hnx : nrx b = -52 ∨ nrx b = 0 := by unfold nrx; split <;> simp
    obtain ⟨F, hF⟩ : ∃ F, F = (if isNeg (nrm b) then 9223372036854775808 else 0) + 1022 * 4503599627370496 + rung (nrm b) % 4503599627370496 := ⟨_, rfl⟩
    have hF2 : F < 18446744073709551616 ∧ rung F / 4503599627370496 = 1022 ∧ isNeg F = isNeg (nrm b) ∧ rung F % 4503599627370496 = rung (nrm b) % 4503599627370496 := by
      rw [hF]
      generalize rung (nrm b) % 4503599627370496 = z at *
      unfold rung isNeg
      cases decide (9223372036854775808 ≤ nrm b) <;> simp <;> omega
    obtain ⟨L, hL⟩ : ∃ L, L = (if isNeg F then 9223372036854775808 else 0) + 1075 * 4503599627370496 + rung F % 4503599627370496 := ⟨_, rfl⟩
    have hL2 : L < 18446744073709551616 ∧ rung L / 4503599627370496 = 1075 ∧ isNeg L = isNeg b ∧ rung L % 4503599627370496 = rung (nrm b) % 4503599627370496 := by
      rw [hL, hF2.2.2.1, hF2.2.2.2, c4]
      generalize rung (nrm b) % 4503599627370496 = z at *
      unfold rung isNeg
      cases decide (9223372036854775808 ≤ b) <;> simp <;> omega
    obtain ⟨m, hm⟩ : ∃ m : Int, m = (if isNeg b then -((4503599627370496 + rung (nrm b) % 4503599627370496 : Nat) : Int) else (4503599627370496 + rung (nrm b) % 4503599627370496 : Nat)) := ⟨_, rfl⟩
    have hmv : ∀ w : World, (convert 22 2 (.float .f64 L)).run Tryz.prog w = .ok (.int .i64 m) w := by
      intro w
      refine run_convert_float_int w _ _ _ _ _ _ (by kernel_rfl) (by kernel_rfl) ?_
      rw [to_i64 L hL2.1 hL2.2.1, hL2.2.2.1, hL2.2.2.2, hm]
    have hB : m.natAbs = 4503599627370496 + rung (nrm b) % 4503599627370496 := by
      rw [hm]; generalize rung (nrm b) % 4503599627370496 = z; cases isNeg b <;> simp <;> omega
    have hms : decide (m < 0) = isNeg b := by
      rw [hm]; generalize rung (nrm b) % 4503599627370496 = z; cases isNeg b <;> simp <;> omega
    obtain ⟨y, hy⟩ : ∃ y : Int, y = nrx b + (rung (nrm b) / 4503599627370496 : Nat) - 1075 := ⟨_, rfl⟩
    have hA2 : n.natAbs ≤ 9223372036854775808 := by omega
    have hB2 : m.natAbs < 9007199254740992 := by rw [hB]; omega
    have hP2 : n.natAbs * m.natAbs < 1329227995784915872903807060280344576 :=
      Nat.lt_of_le_of_lt (Nat.mul_le_mul hA2 (Nat.le_of_lt_succ (show m.natAbs < 9007199254740991 + 1 from hB2))) (by decide)
    obtain ⟨v1, v2⟩ := prod_out n b h0 h2 y hy (n.natAbs * m.natAbs) (by rw [hB])
    have hlo : 0 ≤ ((n.natAbs * m.natAbs % 18446744073709551616 : Nat) : Int) ∧ ((n.natAbs * m.natAbs % 18446744073709551616 : Nat) : Int) < 18446744073709551616 := by omega
    have hln : Lib.bitLen (n.natAbs * m.natAbs % 18446744073709551616) ≤ 64 := Lib.bitLenAux_le 64 _ 64 (Nat.mod_lt _ (by decide))
    refine times_core b (nrm b) F L n.natAbs m.natAbs (n.natAbs * m.natAbs) n (nrx b + (rung (nrm b) / 4503599627370496 : Nat) - 1022) m _ _ y _ _ _ (pneg n b) w hb h0 h2 hn1 hn2
      (by omega) (by omega) rfl hF rfl ⟨hF2.1, hF2.2.1⟩ hL hmv ?_ ?_ (by omega) (by omega) rfl rfl ⟨by omega, by omega⟩ rfl hP2 rfl rfl ⟨hlo, rfl⟩ ⟨Int.natCast_nonneg _, ?_⟩ v1 v2
    · rw [hms]; rfl
    · rw [hy, wrap_i64]
      generalize rung (nrm b) / 4503599627370496 = z at *
      omega
    · rw [Int.toNat_natCast]; omega
end Go.Proofs.YtjhhpcjnhjbpdaaGreat

/- Contracts of the num package's functions: Key, Cmp. -/
set_option linter.unusedSimpArgs false
set_option linter.unusedVariables false
namespace Go.Proofs.YtjhhpcjnhjbpdaaGreat
open Go.RowKit Mo
def keyN (b : Nat) : Nat := if isNaN b then 0 else if isNeg b then 18446744073709551615 - b else b + 9223372036854775808
theorem key_lt (b : Nat) (hb : b < 18446744073709551616) : keyN b < 18446744073709551616 := by
  unfold keyN isNeg
  split
  · decide
  · split
    · omega
    · rename_i h; simp at h; omega
theorem xor_all (b : Nat) (hb : b < 18446744073709551616) : bits .xor .u64 IntKind.u64.max (b : Int) = (18446744073709551615 - b : Nat) := by
  rw [show IntKind.u64.max = ((18446744073709551615 : Nat) : Int) from by decide, u64_xor_nat _ _ (by decide) hb]
  refine congrArg Int.ofNat (Nat.eq_of_testBit_eq fun i => ?_)
  rw [Nat.testBit_xor, show (18446744073709551615 : Nat) = 2 ^ 64 - 1 from rfl, Nat.testBit_two_pow_sub_one,
    show 2 ^ 64 - 1 - b = 2 ^ 64 - (b + 1) from by omega, Nat.testBit_two_pow_sub_succ (by omega)]
  by_cases h : i < 64
  · simp [h]
  · have : b.testBit i = false := Nat.testBit_lt_two_pow (Nat.lt_of_lt_of_le hb (Nat.pow_le_pow_right (n := 2) (by decide) (show 64 ≤ i by omega)))
    simp [h, this]
theorem or_top (b : Nat) (hb : b < 9223372036854775808) : bits .or .u64 (b : Int) 9223372036854775808 = (b + 9223372036854775808 : Nat) := by
  rw [show (9223372036854775808 : Int) = ((9223372036854775808 : Nat) : Int) from rfl, u64_or_nat _ _ (by omega) (by decide)]
  refine congrArg Int.ofNat ?_
  have := join63 1 b hb
  rw [Nat.one_mul] at this
  rw [Nat.or_comm, this, Nat.add_comm]
theorem top_bit (b : Nat) (hb : b < 18446744073709551616) : ((b : Int) / 9223372036854775808 == 1) = isNeg b := by
  unfold isNeg
  rw [Bool.eq_iff_iff, beq_iff_eq, decide_eq_true_iff]
  omega
set_option maxHeartbeats 400000 in
theorem key_any (b : Nat) (w : World) (hb : b < 18446744073709551616) : Calls Tryz.prog 82 #[.float .f64 b] w fun e w' => e = .returned (.int .u64 (keyN b : Nat)) ∧ w = w' := by
  have e0 := f_ne_self hb
  have e1 := top_bit b hb
  have hr := run_bits
  unfold keyN
  rcases (show isNaN b = true ∨ (isNaN b = false ∧ isNeg b = true) ∨ (isNaN b = false ∧ isNeg b = false) by cases isNaN b <;> cases isNeg b <;> simp) with h | ⟨h, k⟩ | ⟨h, k⟩
  · rw [h] at e0 ⊢
    go_enter Tryz.func82, Tryz.ntmps82
    go_wp2
    go_ret
    exact ⟨rfl, rfl⟩
  · rw [h] at e0 ⊢
    rw [k] at e1 ⊢
    have e2 := Lib.hid (xor_all b hb)
    clear h k
    go_enter Tryz.func82, Tryz.ntmps82
    go_wp2
    go_ret
    exact ⟨ret_u64 e2.out, rfl⟩
  · rw [h] at e0 ⊢
    rw [k] at e1 ⊢
    have k1 : b < 9223372036854775808 := by unfold isNeg at k; simpa using k
    have e2 := Lib.hid (or_top b k1)
    clear h k k1
    go_enter Tryz.func82, Tryz.ntmps82
    go_wp2
    go_ret
    exact ⟨ret_u64 e2.out, rfl⟩
def cmpN (a b : Nat) : Int := if keyN a < keyN b then -1 else if keyN b < keyN a then 1 else 0
set_option maxHeartbeats 400000 in
theorem cmp_any (a b : Nat) (w : World) (ha : a < 18446744073709551616) (hb : b < 18446744073709551616) : Calls Tryz.prog 64 #[.float .f64 a, .float .f64 b] w fun e w' => e = .returned (.int .i64 (cmpN a b)) ∧ w = w' := by
  unfold cmpN
  have k1 := key_lt a ha; have k2 := key_lt b hb
  obtain ⟨x, hx⟩ : ∃ x, keyN a = x := ⟨_, rfl⟩
  obtain ⟨y, hy⟩ : ∃ y, keyN b = y := ⟨_, rfl⟩
  rw [hx] at k1 ⊢; rw [hy] at k2 ⊢
  have HX := Lib.hid hx; have HY := Lib.hid hy; clear hx hy
  rcases (show x < y ∨ y < x ∨ x = y by omega) with h | h | rfl
  · rw [if_pos h]
    have d1 : decide (x < y) = true := by simp; omega
    clear h
    go_enter Tryz.func64, Tryz.ntmps64
    go_wp2_with (first | (go_at_call 82; (have := HB0; clear this); refine (key_any _ _ hb).mono ?_; rintro e w1 ⟨rfl, rfl⟩; rw [HY.out]) | (go_at_call 82; refine (key_any _ _ ha).mono ?_; rintro e w1 ⟨rfl, rfl⟩; rw [HX.out]; have HB0 := trivial))
    go_ret
    exact ⟨rfl, rfl⟩
  · rw [if_neg (by omega), if_pos h]
    have d1 : decide (x < y) = false := by simp; omega
    have d2 : decide (y < x) = true := by simp; omega
    clear h
    go_enter Tryz.func64, Tryz.ntmps64
    go_wp2_with (first | (go_at_call 82; (have := HB0; clear this); refine (key_any _ _ hb).mono ?_; rintro e w1 ⟨rfl, rfl⟩; rw [HY.out]) | (go_at_call 82; refine (key_any _ _ ha).mono ?_; rintro e w1 ⟨rfl, rfl⟩; rw [HX.out]; have HB0 := trivial))
    go_ret
    exact ⟨rfl, rfl⟩
  · rw [if_neg (by omega), if_neg (by omega)]
    have d1 : decide (x < x) = false := by simp
    go_enter Tryz.func64, Tryz.ntmps64
    go_wp2_with (first | (go_at_call 82; (have := HB0; clear this); refine (key_any _ _ hb).mono ?_; rintro e w1 ⟨rfl, rfl⟩; rw [HY.out]) | (go_at_call 82; refine (key_any _ _ ha).mono ?_; rintro e w1 ⟨rfl, rfl⟩; rw [HX.out]; have HB0 := trivial))
    go_ret
    exact ⟨rfl, rfl⟩
end Go.Proofs.YtjhhpcjnhjbpdaaGreat

/- Products with a rate (the span's words beside). -/
set_option linter.unusedSimpArgs false
set_option linter.unusedVariables false
namespace Go.Proofs.YtjhhpcjnhjbpdaaGreat
open Go.RowKit Mo
/-- a rate is zero, or above zero and one at most -/
def rateOk (b : Nat) : Bool := decide (b ≤ 4607182418800017408) || decide (b = 9223372036854775808)
def cdiv (N D : Nat) : Nat := N / D + if N % D ≠ 0 then 1 else 0
theorem cdiv_mono {N M D : Nat} (hD : 0 < D) (h : N ≤ M) : cdiv N D ≤ cdiv M D := by
  unfold cdiv
  have h1 := Nat.div_add_mod N D
  have h2 := Nat.div_add_mod M D
  have h3 := Nat.mod_lt N hD
  have h4 := Nat.mod_lt M hD
  have h5 : N / D ≤ M / D := Nat.div_le_div_right h
  generalize N / D = x at *
  generalize M / D = y at *
  generalize N % D = u at *
  generalize M % D = v at *
  rcases (show x = y ∨ x + 1 ≤ y by omega) with rfl | h6
  · have : u ≤ v := by
      generalize D * x = z at *
      omega
    split <;> split <;> omega
  · split <;> split <;> omega
theorem cdiv_le {N D e : Nat} (hD : 0 < D) (h : N ≤ e * D) : cdiv N D ≤ e := by
  have h1 := cdiv_mono hD h
  have h2 : cdiv (e * D) D = e := by unfold cdiv; rw [Nat.mul_div_cancel _ hD, Nat.mul_mod_left]; simp
  omega
theorem cdiv_zero (D : Nat) : cdiv 0 D = 0 := by unfold cdiv; simp
/-- what a rate's word is made of -/
theorem rate_parts (b : Nat) (h : rateOk b = true) : rung b ≤ 4607182418800017408 ∧ expf b ≤ 1023 ∧ Mo.part b ≤ 2 ^ (1075 - expf b) := by
  have hr : rung b ≤ 4607182418800017408 := by unfold rateOk at h; unfold rung; simp at h; omega
  refine ⟨hr, ?_, ?_⟩
  · unfold expf; split
    · decide
    · have : rung b / 4503599627370496 ≤ 4607182418800017408 / 4503599627370496 := Nat.div_le_div_right hr
      omega
  · unfold Mo.part expf
    by_cases h1 : rung b < 4503599627370496
    · rw [if_pos h1, if_pos h1]
      refine Nat.le_trans (Nat.le_of_lt h1) ?_
      obtain ⟨K, hK⟩ : ∃ K, 1075 - 1 = K := ⟨_, rfl⟩
      rw [hK]
      exact Nat.le_trans (show 4503599627370496 ≤ 2 ^ 52 by decide) (Nat.pow_le_pow_right (by decide) (by omega))
    · rw [if_neg h1, if_neg h1]
      rcases (show rung b / 4503599627370496 = 1023 ∨ rung b / 4503599627370496 ≤ 1022 by omega) with h2 | h2
      · rw [h2]
        have h3 : rung b % 4503599627370496 = 0 := by omega
        rw [h3]; decide
      · have h3 : rung b % 4503599627370496 < 4503599627370496 := Nat.mod_lt _ (by decide)
        refine Nat.le_trans (show 4503599627370496 + rung b % 4503599627370496 ≤ 2 ^ 53 by omega) ?_
        exact Nat.pow_le_pow_right (by decide) (by omega)
def driftBy (el : Int) (b : Nat) : Nat := cdiv (el.natAbs * Mo.part b) (2 ^ (1075 - expf b))
theorem drift_le (el : Int) (b : Nat) (h : rateOk b = true) : driftBy el b ≤ el.natAbs := cdiv_le (Nat.two_pow_pos _) (Nat.mul_le_mul_left _ (rate_parts b h).2.2)
theorem drift_mono {el fl : Int} (b : Nat) (h : el.natAbs ≤ fl.natAbs) : driftBy el b ≤ driftBy fl b := cdiv_mono (Nat.two_pow_pos _) (Nat.mul_le_mul_right _ h)
/-- the product's outcome, where the sign asks for the greater one -/
theorem prod_cdiv (n : Int) (b : Nat) (up : Bool) (h : rateOk b = true) (hn : n.natAbs ≤ 1125899906842624) (hs : n = 0 ∨ Mo.part b = 0 ∨ (pneg n b != up) = true) :
    prodE n b up = 0 ∧ prodV n b up = if pneg n b then -(driftBy n b : Int) else (driftBy n b : Int) := by
  obtain ⟨h1, h2, h3⟩ := rate_parts b h
  have hq : pabs n b up = driftBy n b := by
    unfold pabs driftBy sq sl cdiv
    rw [if_neg (by omega)]
    have hx : decide (expf b < 1075) = true := by simp; omega
    rw [hx]
    rcases hs with rfl | hs | hs
    · simp
    · rw [hs]; simp
    · rw [hs]; simp
  have hle := drift_le n b h
  have hE : prodE n b up = 0 := by
    unfold prodE
    rw [if_neg (by omega), if_neg (by omega), hq]
    rw [if_pos]
    unfold pfit
    split <;> simp <;> omega
  refine ⟨hE, ?_⟩
  unfold prodV
  rw [hE, if_pos rfl, hq]
/-- both products of a drift -/
theorem drift_num (el : Int) (b : Nat) (h : rateOk b = true) (h0 : 0 ≤ el) (h1 : el ≤ 1125899906842624) :
    prodE (-el) b false = 0 ∧ prodV (-el) b false = -(driftBy el b : Int) ∧ prodE el b true = 0 ∧ prodV el b true = driftBy el b := by
  have hb : Mo.part b = 0 ∨ isNeg b = false := by
    unfold rateOk at h; simp at h
    rcases h with h | rfl
    · right; unfold isNeg; simp; omega
    · left; decide
  have e0 : driftBy (-el) b = driftBy el b := by unfold driftBy; rw [Int.natAbs_neg]
  have k1 := prod_cdiv (-el) b false h (by omega) (by
    rcases hb with hb | hb
    · exact .inr (.inl hb)
    · rcases (show el = 0 ∨ 0 < el by omega) with rfl | he
      · left; rfl
      · right; right; unfold pneg; rw [hb]; simp; omega)
  have k2 := prod_cdiv el b true h (by omega) (by
    rcases hb with hb | hb
    · exact .inr (.inl hb)
    · right; right; unfold pneg; rw [hb]; simp; omega)
  have z1 : Mo.part b = 0 → driftBy el b = 0 := by intro hz; unfold driftBy; rw [hz, Nat.mul_zero]; exact cdiv_zero _
  refine ⟨k1.1, ?_, k2.1, ?_⟩
  · rw [k1.2, e0]
    rcases hb with hb | hb
    · rw [z1 hb]; simp
    · rcases (show el = 0 ∨ 0 < el by omega) with rfl | he
      · have : driftBy 0 b = 0 := by unfold driftBy; simp [cdiv_zero]
        rw [this]; simp
      · rw [if_pos]; unfold pneg; rw [hb]; simp; omega
  · rw [k2.2]
    rcases hb with hb | hb
    · rw [z1 hb]; simp
    · rw [if_neg]; unfold pneg; rw [hb]; simp; omega
/-- the words that are no rate -/
theorem rate_cls (b : Nat) (hb : b < 18446744073709551616) : (rateOk b = true ∧ 3 ≤ cls b ∧ (FloatKind.f64.format.order b 4607182418800017408 == some Ordering.gt) = false) ∨ (rateOk b = false ∧ cls b < 3) ∨ (rateOk b = false ∧ 3 ≤ cls b ∧ (FloatKind.f64.format.order b 4607182418800017408 == some Ordering.gt) = true) := by
  have e1 : isNaN 4607182418800017408 = false := by decide
  have e2 : ikey 4607182418800017408 = 4607182418800017408 := by decide
  rw [f_gt hb (by decide), e1, e2]
  unfold rateOk cls ikey isNaN isNeg rung
  by_cases h : b < 9223372036854775808
  · have h2 : b % 9223372036854775808 = b := by omega
    rw [h2]
    have h3 : ¬ 9223372036854775808 ≤ b := by omega
    simp only [h3, decide_false, if_false, Bool.false_eq_true]
    rcases (show b ≤ 4607182418800017408 ∨ (4607182418800017408 < b ∧ b ≤ 9218868437227405312) ∨ 9218868437227405312 < b by omega) with g | ⟨g, g'⟩ | g
    · left; simp [g]; (try split) <;> (try omega) <;> (try split) <;> omega
    · right; right; simp; refine ⟨by omega, ?_, by omega, by omega⟩; (try split) <;> (try omega) <;> (try split) <;> (try omega) <;> (try split) <;> omega
    · right; left; simp; refine ⟨by omega, ?_⟩; rw [if_pos (by omega)]; decide
  · have h2 : b % 9223372036854775808 = b - 9223372036854775808 := by omega
    rw [h2]
    have h3 : 9223372036854775808 ≤ b := by omega
    simp only [h3, decide_true, if_true]
    rcases (show b = 9223372036854775808 ∨ 9223372036854775808 < b by omega) with g | g
    · subst g; left; decide
    · right; left; simp; refine ⟨by omega, ?_⟩; (try split) <;> (try omega) <;> (try split) <;> omega
end Go.Proofs.YtjhhpcjnhjbpdaaGreat
