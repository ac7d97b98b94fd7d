/- Contracts of the num package's functions: Frexp, Ldexp of a normal number. -/
import Derived.Test.YtkfpopilkagedaaNumB
import Derived.Test.YtkfpopilkagedaaFloatC
import Derived.Laws.FloatArith
set_option linter.unusedSimpArgs false
set_option linter.unusedVariables false
namespace Go.Proofs.Ytkfpopilkagedaa
open Go.RowKit Mo
theorem ret_f64 {a b : Nat} (h : a = b) : Ending.returned (.float .f64 a) = .returned (.float .f64 b) := by rw [h]
theorem ret_fi {a b : Nat} {c d : Int} (h : a = b) (h2 : c = d) : Ending.returned (.tuple #[.float .f64 a, .int .i64 c]) = .returned (.tuple #[.float .f64 b, .int .i64 d]) := by rw [h, h2]
theorem rung_lt (b : Nat) : rung b < 9223372036854775808 := Nat.mod_lt _ (by decide)
set_option maxRecDepth 100000 in
set_option maxHeartbeats 400000 in
theorem abs_any (b : Nat) (w : World) (hb : b < 18446744073709551616) : Calls Try.prog 57 #[.float .f64 b] w fun e w' => e = .returned (.float .f64 (rung b)) ∧ w = w' := by
  have hr := run_bits
  have hf := run_frombits
  go_enter Try.func57, Try.ntmps57
  go_wp2
  go_ret
  refine ⟨ret_f64 ?_, rfl⟩
  rw [sign_off b hb]; rfl
theorem isnan_any (b : Nat) (w : World) (hb : b < 18446744073709551616) : Calls Try.prog 69 #[.float .f64 b] w fun e w' => e = .returned (.bool (isNaN b)) ∧ w = w' := by
  go_enter Try.func69, Try.ntmps69
  go_wp2
  go_ret
  refine ⟨?_, rfl⟩
  show Ending.returned (.bool (FloatKind.f64.format.order b b != some Ordering.eq)) = _
  rw [f_ne_self hb]
theorem rung_rung (b : Nat) : rung (rung b) = rung b := Nat.mod_mod _ _
theorem ikey_rung (b : Nat) : ikey (rung b) = rung b := by
  have : isNeg (rung b) = false := by unfold isNeg; have := rung_lt b; simp; omega
  unfold ikey; rw [this, rung_rung]; simp
theorem isNaN_rung (b : Nat) : isNaN (rung b) = isNaN b := by unfold isNaN; rw [rung_rung]
set_option maxRecDepth 100000 in
set_option maxHeartbeats 400000 in
theorem isinf_any (b : Nat) (w : World) (hb : b < 18446744073709551616) : Calls Try.prog 38 #[.float .f64 b, .int .i64 0] w fun e w' => e = .returned (.bool (!isNaN b && decide (rung b = 9218868437227405312))) ∧ w = w' := by
  go_enter Try.func38, Try.ntmps38
  go_wp2_with (go_at_call 57; refine (abs_any b _ hb).mono ?_; rintro e w1 ⟨rfl, rfl⟩)
  go_ret
  refine ⟨?_, rfl⟩
  show Ending.returned (.bool (FloatKind.f64.format.order (rung b) 9218868437227405311 == some Ordering.gt)) = _
  have := rung_lt b
  rw [f_gt (by omega) (by decide), isNaN_rung, ikey_rung]
  congr 2
  have e1 : ikey 9218868437227405311 = 9218868437227405311 := by decide
  have e2 : isNaN 9218868437227405311 = false := by decide
  rw [e1, e2, Bool.eq_iff_iff]
  unfold isNaN
  simp; omega
set_option maxRecDepth 100000 in
set_option maxHeartbeats 400000 in
theorem normalize_normal (b : Nat) (w : World) (hb : b < 18446744073709551616) (h : 4503599627370496 ≤ rung b) : Calls Try.prog 70 #[.float .f64 b] w fun e w' => e = .returned (.tuple #[.float .f64 b, .int .i64 0]) ∧ w = w' := by
  have hd : (FloatKind.f64.format.order (rung b) 4503599627370496 == some Ordering.lt) = false := by
    have := rung_lt b
    rw [f_lt (by omega) (by decide), ikey_rung, show ikey 4503599627370496 = 4503599627370496 by decide]
    have : decide ((rung b : Int) < 4503599627370496) = false := by simp; omega
    rw [this, Bool.and_false]
  clear h
  go_enter Try.func70, Try.ntmps70
  go_wp2_with (go_at_call 57; refine (abs_any b _ hb).mono ?_; rintro e w1 ⟨rfl, rfl⟩)
  go_ret2
  exact ⟨rfl, rfl⟩
set_option maxRecDepth 100000 in
set_option maxHeartbeats 400000 in
theorem normalize_any (b : Nat) (w : World) (hb : b < 18446744073709551616) (h0 : 0 < rung b) (h2 : rung b < 9218868437227405312) : Calls Try.prog 70 #[.float .f64 b] w fun e w' => e = .returned (.tuple #[.float .f64 (nrm b), .int .i64 (nrx b)]) ∧ w = w' := by
  by_cases h : rung b < 4503599627370496
  · have hd : (FloatKind.f64.format.order (rung b) 4503599627370496 == some Ordering.lt) = true := by
      have := rung_lt b
      have hn : isNaN (rung b) = false := by rw [isNaN_rung]; unfold isNaN; simp; omega
      rw [f_lt (by omega) (by decide), ikey_rung, show ikey 4503599627370496 = 4503599627370496 by decide, hn, show isNaN 4503599627370496 = false by decide]
      have : decide ((rung b : Int) < 4503599627370496) = true := by simp; omega
      rw [this]; rfl
    have hm : ∀ w : World, (binOp .mul 22 (.float .f64 b) (.float .f64 4841369599423283200)).run Try.prog w = .ok (.float .f64 (nrm b)) w :=
      fun w => run_float_arith w _ _ _ _ _ _ (mul_up b hb h0 h)
    have hx : nrx b = -52 := by unfold nrx; rw [if_pos h]
    rw [hx]
    generalize nrm b = N at hm ⊢
    clear h h0 h2 hx
    go_enter Try.func70, Try.ntmps70
    go_wp2_with (go_at_call 57; refine (abs_any b _ hb).mono ?_; rintro e w1 ⟨rfl, rfl⟩)
    all_goals go_ret2
    all_goals exact ⟨rfl, rfl⟩
  · have hx : nrx b = 0 := by unfold nrx; rw [if_neg h]
    have hn : nrm b = b := by unfold nrm; rw [if_neg h]
    rw [hx, hn]
    exact normalize_normal b w hb (by omega)
set_option maxRecDepth 100000 in
set_option maxHeartbeats 800000 in
/-- a normal number's fraction and exponent -/
theorem frexp_any (b c F : Nat) (x n0 : Int) (w : World) (hb : b < 18446744073709551616) (h0 : 0 < rung b) (h2 : rung b < 9218868437227405312)
    (hc : c = nrm b) (hn0 : n0 = nrx b)
    (hF : F = (if isNeg c then 9223372036854775808 else 0) + 1022 * 4503599627370496 + rung c % 4503599627370496) (hx : x = nrx b + (rung c / 4503599627370496 : Nat) - 1022) :
    Calls Try.prog 59 #[.float .f64 b] w fun e w' => e = .returned (.tuple #[.float .f64 F, .int .i64 x]) ∧ w = w' := by
  have hr := run_bits
  have hf := run_frombits
  have hd : (FloatKind.f64.format.order b 0 == some Ordering.eq) = false := by
    rw [f_eq hb (by decide), show ikey 0 = 0 by decide]
    have : decide (ikey b = 0) = false := by unfold ikey; simp; cases isNeg b <;> simp <;> omega
    rw [this, Bool.and_false]
  have hn : isNaN b = false := by unfold isNaN; simp; omega
  have hq : decide (rung b = 9218868437227405312) = false := by simp; omega
  have hnx : nrx b = -52 ∨ nrx b = 0 := by unfold nrx; split <;> simp
  rw [← hn0] at hx hnx
  have H0 := Lib.hid h0; have H2 := Lib.hid h2; have HF := Lib.hid hF; have HX := Lib.hid hx; have HC := Lib.hid hc; have HN0 := Lib.hid hn0; have HNX := Lib.hid hnx; clear h0 h2 hF hx hc hn0 hnx
  go_enter Try.func59, Try.ntmps59
  go_wp2_with (first | (go_at_call 38; refine (isinf_any b _ hb).mono ?_; rintro e w1 ⟨rfl, rfl⟩; rw [hn, hq]) | (go_at_call 69; refine (isnan_any b _ hb).mono ?_; rintro e w1 ⟨rfl, rfl⟩; rw [hn]) | (go_at_call 70; refine (normalize_any b _ hb H0.out H2.out).mono ?_; rintro e w1 ⟨rfl, rfl⟩; rw [← HC.out, ← HN0.out]))
  go_ret2
  have hs := nrm_spec b hb H0.out H2.out
  rw [← HC.out] at hs
  have hcb := hs.1
  refine ⟨ret_fi ?_ ?_, rfl⟩
  · rw [HF.out]; exact congrArg Int.toNat (field_lay c 1022 hcb (by decide))
  · have e := field_of c hcb
    have h1 := hs.2.2.1
    rw [show ((c / 4503599627370496 : Nat) : Int) = (c : Int) / 4503599627370496 by omega] at e
    rw [HX.out, e]
    have : rung c / 4503599627370496 < 2047 := by omega
    generalize rung c / 4503599627370496 = y at *
    rcases HNX.out with e2 | e2 <;> rw [e2] <;> simp [wrap_i64] <;> omega
set_option maxRecDepth 100000 in
set_option maxHeartbeats 800000 in
theorem Frexp_any (b c F : Nat) (x n0 : Int) (w : World) (hb : b < 18446744073709551616) (h0 : 0 < rung b) (h2 : rung b < 9218868437227405312)
    (hc : c = nrm b) (hn0 : n0 = nrx b)
    (hF : F = (if isNeg c then 9223372036854775808 else 0) + 1022 * 4503599627370496 + rung c % 4503599627370496) (hx : x = nrx b + (rung c / 4503599627370496 : Nat) - 1022) :
    Calls Try.prog 40 #[.float .f64 b] w fun e w' => e = .returned (.tuple #[.float .f64 F, .int .i64 x]) ∧ w = w' := by
  have H0 := Lib.hid h0; have H2 := Lib.hid h2; have HF := Lib.hid hF; have HX := Lib.hid hx; have HC := Lib.hid hc; have HN0 := Lib.hid hn0; clear h0 h2 hF hx hc hn0
  go_enter Try.func40, Try.ntmps40
  go_wp2_with (go_at_call 59; refine (frexp_any b c F x n0 _ hb H0.out H2.out HC.out HN0.out HF.out HX.out).mono ?_; rintro e w1 ⟨rfl, rfl⟩)
  go_ret2
  exact ⟨rfl, rfl⟩
set_option maxRecDepth 100000 in
set_option maxHeartbeats 800000 in
/-- a fraction of 2^-1 to 1, 53 places up -/
theorem ldexp_frac (b L : Nat) (w : World) (hb : b < 18446744073709551616) (h : rung b / 4503599627370496 = 1022)
    (hL : L = (if isNeg b then 9223372036854775808 else 0) + 1075 * 4503599627370496 + rung b % 4503599627370496) :
    Calls Try.prog 61 #[.float .f64 b, .int .i64 53] w fun e w' => e = .returned (.float .f64 L) ∧ w = w' := by
  have hr := run_bits
  have hf := run_frombits
  have hd : (FloatKind.f64.format.order b 0 == some Ordering.eq) = false := by
    rw [f_eq hb (by decide), show ikey 0 = 0 by decide]
    have : decide (ikey b = 0) = false := by unfold ikey; simp; cases isNeg b <;> simp <;> omega
    rw [this, Bool.and_false]
  have hn : isNaN b = false := by unfold isNaN; simp; omega
  have hq : decide (rung b = 9218868437227405312) = false := by simp; omega
  have he : wrap64 (53 + wrap64 (bits .and .i64 ((b : Int) / 4503599627370496) 2047 - 1023)) = 52 := by
    have : ((b : Int) / 4503599627370496) % 2048 = 1022 := by unfold rung at h; omega
    rw [i64_and2047, this]; simp [wrap_i64]
  have hl : (bits .or .u64 (bits .andNot .u64 (b : Int) 9218868437227405312) 4841369599423283200).toNat = L := by
    rw [hL]; exact congrArg Int.toNat (field_lay b 1075 hb (by decide))
  have hL2 : L < 18446744073709551616 ∧ rung L / 4503599627370496 = 1075 := by
    rw [hL]; unfold rung; cases isNeg b <;> simp <;> omega
  have hm : ∀ w : World, (binOp .mul 22 (.float .f64 4607182418800017408) (.float .f64 L)).run Try.prog w = .ok (.float .f64 L) w :=
    fun w => run_float_arith w _ _ _ _ _ _ (mul_one_frac L hL2.1 hL2.2)
  have H := Lib.hid h; have HL := Lib.hid hL; clear h hL hL2
  go_enter Try.func61, Try.ntmps61
  go_wp2_with (first | (go_at_call 38; refine (isinf_any b _ hb).mono ?_; rintro e w1 ⟨rfl, rfl⟩; rw [hn, hq]) | (go_at_call 69; refine (isnan_any b _ hb).mono ?_; rintro e w1 ⟨rfl, rfl⟩; rw [hn]) | (go_at_call 70; refine (normalize_normal b _ hb (by have := H.out; omega)).mono ?_; rintro e w1 ⟨rfl, rfl⟩))
  go_ret
  exact ⟨rfl, rfl⟩
set_option maxRecDepth 100000 in
set_option maxHeartbeats 800000 in
theorem Ldexp_frac (b L : Nat) (w : World) (hb : b < 18446744073709551616) (h : rung b / 4503599627370496 = 1022)
    (hL : L = (if isNeg b then 9223372036854775808 else 0) + 1075 * 4503599627370496 + rung b % 4503599627370496) :
    Calls Try.prog 41 #[.float .f64 b, .int .i64 53] w fun e w' => e = .returned (.float .f64 L) ∧ w = w' := by
  have H := Lib.hid h; have HL := Lib.hid hL; clear h hL
  go_enter Try.func41, Try.ntmps41
  go_wp2_with (go_at_call 61; refine (ldexp_frac b L _ hb H.out HL.out).mono ?_; rintro e w1 ⟨rfl, rfl⟩)
  go_ret
  exact ⟨rfl, rfl⟩
end Go.Proofs.Ytkfpopilkagedaa
