/- Contracts of the num package's functions: the product. -/
import Derived.Test.YtkfpopilkagedaaNumC
import Derived.Test.YtkfpopilkagedaaFloatE
set_option linter.unusedSimpArgs false
set_option linter.unusedVariables false
namespace Go.Proofs.Ytkfpopilkagedaa
open Go.RowKit Mo
theorem size_is (n : Int) (A : Nat) (w : World) (h : A = n.natAbs) (h1 : -9223372036854775808 ≤ n) (h2 : n ≤ 9223372036854775807) :
    Calls Try.prog 43 #[.int .i64 n] w fun e w' => e = .returned (.int .u64 A) ∧ w = w' := by
  rw [h]; exact size_any n w h1 h2
theorem mul_is (A B : Nat) (hi lo : Int) (w : World) (h1 : A < 18446744073709551616) (h2 : B < 18446744073709551616) (hh : hi = (A * B / 18446744073709551616 : Nat)) (hl : lo = (A * B % 18446744073709551616 : Nat)) :
    Calls Try.prog 42 #[.int .u64 A, .int .u64 B] w fun e w' => e = .returned (.tuple #[.int .u64 hi, .int .u64 lo]) ∧ w' = w := by
  rw [hh, hl]; exact Try.bits_Mul64 A B h1 h2 w
theorem len_is (lo len : Int) (w : World) (h : 0 ≤ lo ∧ lo < 18446744073709551616) (hl : len = (Lib.bitLen lo.toNat : Nat)) :
    Calls Try.prog 44 #[.int .u64 lo] w fun e w' => e = .returned (.int .i64 len) ∧ w' = w := by
  rw [hl]; exact Try.bits_Len64 lo w h.1 (by omega)
theorem signed_is (neg : Bool) (q V E : Int) (Q : Nat) (w : World) (h : q = Q) (hq : Q < 18446744073709551616) (hV : outV neg Q = V) (hE : outE neg Q = E) :
    Calls Try.prog 45 #[.bool neg, .int .u64 q] w fun e w' => e = .returned (.tuple #[.int .i64 V, .int .i64 E]) ∧ w = w' := by
  have hq2 : (Q : Int) < 18446744073709551616 := Int.ofNat_lt.2 hq
  have := signed_any neg q w (by rw [h]; exact Int.natCast_nonneg _) (by rw [h]; exact hq2)
  rw [h, Int.toNat_natCast] at this
  rw [h, ← hV, ← hE]; exact this
set_option maxRecDepth 100000 in
set_option maxHeartbeats 2000000 in
theorem times_core (b c F L A B P : Nat) (n x m hi lo y len V E : Int) (neg : Bool) (w : World) (hb : b < 18446744073709551616) (h0 : 0 < rung b) (h2 : rung b < 9218868437227405312)
    (hn1 : -9223372036854775808 ≤ n) (hn2 : n ≤ 9223372036854775807) (hm1 : -9223372036854775808 ≤ m) (hm2 : m ≤ 9223372036854775807)
    (hc : c = nrm b)
    (hF : F = (if isNeg c then 9223372036854775808 else 0) + 1022 * 4503599627370496 + rung c % 4503599627370496) (hx : x = nrx b + (rung c / 4503599627370496 : Nat) - 1022)
    (hFB : F < 18446744073709551616 ∧ rung F / 4503599627370496 = 1022)
    (hL : L = (if isNeg F then 9223372036854775808 else 0) + 1075 * 4503599627370496 + rung F % 4503599627370496)
    (hmv : ∀ w : World, (convert 22 2 (.float .f64 L)).run Try.prog w = .ok (.int .i64 m) w)
    (hneg : (!(decide (n < 0) == decide (m < 0))) = neg) (hy : wrap64 (x - 53) = y) (hy1 : -2000 < y) (hy2 : y < 2000)
    (hA : A = n.natAbs) (hB : B = m.natAbs) (hAB : A < 18446744073709551616 ∧ B < 18446744073709551616)
    (hP : P = A * B) (hP2 : P < 1329227995784915872903807060280344576) (hhi : hi = (A * B / 18446744073709551616 : Nat)) (hlo : lo = (A * B % 18446744073709551616 : Nat))
    (hlen : (0 ≤ lo ∧ lo < 18446744073709551616) ∧ len = (Lib.bitLen lo.toNat : Nat)) (hlen2 : 0 ≤ len ∧ len ≤ 64)
    (hV : outV neg (outQ neg P y) = V) (hE : outE neg (outQ neg P y) = E) :
    Calls Try.prog 32 #[.int .i64 n, .float .f64 b] w fun e w' => e = .returned (.tuple #[.int .i64 V, .int .i64 E]) ∧ w = w' := by
  have hcl : cls b = 2 ∨ cls b = 5 := by
    have hn : isNaN b = false := by unfold isNaN; simp; omega
    unfold cls
    rw [hn, if_neg (by simp), if_neg (by omega), if_neg (by omega)]
    cases isNeg b <;> simp
  obtain ⟨k, hk⟩ : ∃ k, cls b = k := ⟨_, rfl⟩
  have H0 := Lib.hid h0; have H2 := Lib.hid h2; have HF := Lib.hid hF; have HX := Lib.hid hx; have HC := Lib.hid hc; have HL := Lib.hid hL
  have HA := Lib.hid hA; have HB := Lib.hid hB; have HAB := Lib.hid hAB; have HP := Lib.hid hP; have HP2 := Lib.hid hP2; have HHI := Lib.hid hhi; have HLO := Lib.hid hlo; have HLEN := Lib.hid hlen
  have HK := Lib.hid hk; have HFB := Lib.hid hFB
  have HV := Lib.hid hV; have HE := Lib.hid hE
  have l0 : 0 ≤ lo := hlen.1.1
  have l1 : lo < 18446744073709551616 := hlen.1.2
  have i0 : 0 ≤ hi := by rw [hhi]; exact Int.natCast_nonneg _
  rw [hk] at hcl
  have hk0 : (k == 0) = false := by rcases hcl with rfl | rfl <;> rfl
  have hk1 : (k == 1) = false := by rcases hcl with rfl | rfl <;> rfl
  have hk6 : (k == 6) = false := by rcases hcl with rfl | rfl <;> rfl
  clear h0 h2 hF hx hc hL hk hA hB hAB hP hP2 hhi hlo hlen hFB hV hE hcl
  rcases (show hi = 0 ∧ lo = 0 ∨ hi = 0 ∧ lo ≠ 0 ∨ hi ≠ 0 by omega) with ⟨rfl, rfl⟩ | ⟨rfl, hlo⟩ | hhi
  · have hV2 : V = 0 ∧ E = 0 := by
      have : P = 0 := by have a := HHI.out; have b := HLO.out; rw [HP.out]; omega
      have := out_none neg y
      rw [← HV.out, ← HE.out, ‹P = 0›]; exact this
    obtain ⟨rfl, rfl⟩ := hV2
    go_enter Try.func32, Try.ntmps32
    go_wp2_with (first | (go_at_call 30; refine (class_any b _ hb).mono ?_; rintro e w1 ⟨rfl, rfl⟩; rw [HK.out]) | (go_at_call 40; refine (Frexp_any b c F x (nrx b) _ hb H0.out H2.out HC.out rfl HF.out HX.out).mono ?_; rintro e w1 ⟨rfl, rfl⟩) | (go_at_call 41; refine (Ldexp_frac F L _ HFB.out.1 HFB.out.2 HL.out).mono ?_; rintro e w1 ⟨rfl, rfl⟩) | (go_at_call 43; refine (size_any _ _ (by assumption) (by assumption)).mono ?_; rintro e w1 ⟨rfl, rfl⟩; first | rw [← HA.out] | rw [← HB.out]) | (go_at_call 42; refine (mul_is A B _ _ _ HAB.out.1 HAB.out.2 HHI.out HLO.out).mono ?_; rintro e w1 ⟨rfl, rfl⟩) | (go_at_call 44; refine (len_is _ len _ HLEN.out.1 HLEN.out.2).mono ?_; rintro e w1 ⟨rfl, rfl⟩))
    all_goals (go_ret2; exact ⟨rfl, rfl⟩)
  · have hl0 : (lo == 0) = false := by simpa using hlo
    have HP0 : Hid (0 < P ∧ P < 18446744073709551616 ∧ lo = P) := by
      have a := HHI.out; have b := HLO.out; have c := HP.out
      rw [← c] at a b
      exact (show 0 < P ∧ P < 18446744073709551616 ∧ lo = P by omega)
    clear hlo
    rcases (show 64 ≤ y ∨ (0 ≤ y ∧ y < 64 ∧ 64 < len + y) ∨ (0 ≤ y ∧ y < 64 ∧ len + y ≤ 64) ∨ y < 0 by omega) with hy0 | ⟨hy0, hy3, hy4⟩ | ⟨hy0, hy3, hy4⟩ | hy0
    · have hV2 : V = 0 ∧ E = 11 := by
        rw [← HV.out, ← HE.out]; exact out_big (outQ_far hy0 HP0.out.1)
      obtain ⟨rfl, rfl⟩ := hV2
      go_enter Try.func32, Try.ntmps32
      go_wp2_with (first | (go_at_call 30; refine (class_any b _ hb).mono ?_; rintro e w1 ⟨rfl, rfl⟩; rw [HK.out]) | (go_at_call 40; refine (Frexp_any b c F x (nrx b) _ hb H0.out H2.out HC.out rfl HF.out HX.out).mono ?_; rintro e w1 ⟨rfl, rfl⟩) | (go_at_call 41; refine (Ldexp_frac F L _ HFB.out.1 HFB.out.2 HL.out).mono ?_; rintro e w1 ⟨rfl, rfl⟩) | (go_at_call 43; refine (size_any _ _ (by assumption) (by assumption)).mono ?_; rintro e w1 ⟨rfl, rfl⟩; first | rw [← HA.out] | rw [← HB.out]) | (go_at_call 42; refine (mul_is A B _ _ _ HAB.out.1 HAB.out.2 HHI.out HLO.out).mono ?_; rintro e w1 ⟨rfl, rfl⟩) | (go_at_call 44; refine (len_is _ len _ HLEN.out.1 HLEN.out.2).mono ?_; rintro e w1 ⟨rfl, rfl⟩))
      all_goals (go_ret2; exact ⟨rfl, rfl⟩)
    · have hV2 : V = 0 ∧ E = 11 := by
        rw [← HV.out, ← HE.out]; refine out_big (outQ_long hy0 HP0.out.1 HP0.out.2.1 ?_)
        have := HLEN.out.2; rw [HP0.out.2.2, Int.toNat_natCast] at this; omega
      obtain ⟨rfl, rfl⟩ := hV2
      go_enter Try.func32, Try.ntmps32
      go_wp2_with (first | (go_at_call 30; refine (class_any b _ hb).mono ?_; rintro e w1 ⟨rfl, rfl⟩; rw [HK.out]) | (go_at_call 40; refine (Frexp_any b c F x (nrx b) _ hb H0.out H2.out HC.out rfl HF.out HX.out).mono ?_; rintro e w1 ⟨rfl, rfl⟩) | (go_at_call 41; refine (Ldexp_frac F L _ HFB.out.1 HFB.out.2 HL.out).mono ?_; rintro e w1 ⟨rfl, rfl⟩) | (go_at_call 43; refine (size_any _ _ (by assumption) (by assumption)).mono ?_; rintro e w1 ⟨rfl, rfl⟩; first | rw [← HA.out] | rw [← HB.out]) | (go_at_call 42; refine (mul_is A B _ _ _ HAB.out.1 HAB.out.2 HHI.out HLO.out).mono ?_; rintro e w1 ⟨rfl, rfl⟩) | (go_at_call 44; refine (len_is _ len _ HLEN.out.1 HLEN.out.2).mono ?_; rintro e w1 ⟨rfl, rfl⟩))
      all_goals (go_ret2; exact ⟨rfl, rfl⟩)
    · have HQ : Hid (outQ neg P y = P * 2 ^ y.toNat ∧ P * 2 ^ y.toNat < 18446744073709551616) := by
        refine outQ_fits (neg := neg) hy0 HP0.out.1 HP0.out.2.1 ?_
        have := HLEN.out.2; rw [HP0.out.2.2, Int.toNat_natCast] at this; omega
      have HQ2 : Hid (IntKind.u64.wrap (lo * 2 ^ y.toNat) = (P * 2 ^ y.toNat : Nat)) := by
        refine (shift_up lo y.toNat P HP0.out.2.2).trans ?_
        rw [Nat.mod_eq_of_lt HQ.out.2]
      go_enter Try.func32, Try.ntmps32
      go_wp2_with (first | (go_at_call 30; refine (class_any b _ hb).mono ?_; rintro e w1 ⟨rfl, rfl⟩; rw [HK.out]) | (go_at_call 40; refine (Frexp_any b c F x (nrx b) _ hb H0.out H2.out HC.out rfl HF.out HX.out).mono ?_; rintro e w1 ⟨rfl, rfl⟩) | (go_at_call 41; refine (Ldexp_frac F L _ HFB.out.1 HFB.out.2 HL.out).mono ?_; rintro e w1 ⟨rfl, rfl⟩) | (go_at_call 43; refine (size_any _ _ (by assumption) (by assumption)).mono ?_; rintro e w1 ⟨rfl, rfl⟩; first | rw [← HA.out] | rw [← HB.out]) | (go_at_call 42; refine (mul_is A B _ _ _ HAB.out.1 HAB.out.2 HHI.out HLO.out).mono ?_; rintro e w1 ⟨rfl, rfl⟩) | (go_at_call 44; refine (len_is _ len _ HLEN.out.1 HLEN.out.2).mono ?_; rintro e w1 ⟨rfl, rfl⟩))
      refine (signed_is neg _ V E _ _ HQ2.out HQ.out.2 (by rw [← HQ.out.1]; exact HV.out) (by rw [← HQ.out.1]; exact HE.out)).mono ?_
      rintro e w1 ⟨rfl, rfl⟩
      go_wp2
      go_ret2
      exact ⟨rfl, rfl⟩
    · have HPP : Hid (0 < P) := HP0.out.1
      have hk1 : 0 < (-y).toNat := by omega
      have hk2 : (-y).toNat < 2000 := by omega
      have hk3 : -y = ((-y).toNat : Int) := by omega
      have HK1 := Lib.hid hk1; have HK2 := Lib.hid hk2; have HK3 := Lib.hid hk3; clear hk1 hk2 hk3
      have HY := Lib.hid hy0
      go_enter Try.func32, Try.ntmps32
      go_wp2_with (first | (go_at_call 30; refine (class_any b _ hb).mono ?_; rintro e w1 ⟨rfl, rfl⟩; rw [HK.out]) | (go_at_call 40; refine (Frexp_any b c F x (nrx b) _ hb H0.out H2.out HC.out rfl HF.out HX.out).mono ?_; rintro e w1 ⟨rfl, rfl⟩) | (go_at_call 41; refine (Ldexp_frac F L _ HFB.out.1 HFB.out.2 HL.out).mono ?_; rintro e w1 ⟨rfl, rfl⟩) | (go_at_call 43; refine (size_any _ _ (by assumption) (by assumption)).mono ?_; rintro e w1 ⟨rfl, rfl⟩; first | rw [← HA.out] | rw [← HB.out]) | (go_at_call 42; refine (mul_is A B _ _ _ HAB.out.1 HAB.out.2 HHI.out HLO.out).mono ?_; rintro e w1 ⟨rfl, rfl⟩) | (go_at_call 44; refine (len_is _ len _ HLEN.out.1 HLEN.out.2).mono ?_; rintro e w1 ⟨rfl, rfl⟩))
      refine (down_any P (-y).toNat HP2.out HPP.out HK1.out HK2.out _ _ _ _ (by rw [HP.out]; exact HHI.out) (by rw [HP.out]; exact HLO.out) HK3.out).mono ?_
      rintro e w1 ⟨q, r, f, rfl, rfl, hd⟩
      have hq0 : 0 ≤ q := hd.1
      have hq1 : q < 18446744073709551616 := hd.2.1
      have HD := Lib.hid hd; clear hd
      have HQ := Lib.hid (outQ_down (neg := neg) (P := P) hy0)
      cases hf : f
      · have hV2 : V = 0 ∧ E = 11 := by
          rw [← HV.out, ← HE.out]; refine out_big ?_
          rw [HQ.out]
          have := HD.out.2.2.1; rw [hf] at this
          have := of_decide_eq_false this.symm; omega
        obtain ⟨rfl, rfl⟩ := hV2
        clear hf
        go_wp2
        all_goals (go_ret2; exact ⟨rfl, rfl⟩)
      · have hd2 := HD.out.2.2.2 hf
        have HQQ : Hid (outQ neg P y = q.toNat + if (r && neg) = true then 1 else 0) := by
          have e : q.toNat = P / 2 ^ (-y).toNat := by rw [hd2.1, Int.toNat_natCast]
          have := HQ.out; rw [← e, ← hd2.2] at this; exact this
        clear hd2
        have hq9 : q = (q.toNat : Int) := by omega
        have HQ9 := Lib.hid hq9; clear hq9
        by_cases hrn : neg = true ∧ r = true
        · obtain ⟨hn9, rfl⟩ := hrn
          have HN9 := Lib.hid hn9
          by_cases hq3 : 9223372036854775808 ≤ q
          · have hV2 : V = 0 ∧ E = 11 := by
              rw [← HV.out, ← HE.out]; refine out_big ?_
              rw [HQQ.out, hn9]; simp; omega
            obtain ⟨rfl, rfl⟩ := hV2
            clear hf
            go_wp2
            all_goals (go_ret2; exact ⟨rfl, rfl⟩)
          · have hq4 : q < 9223372036854775808 := by omega
            clear hf hq3
            subst hn9
            have HS : Hid (q + 1 = (outQ true P y : Nat) ∧ outQ true P y < 18446744073709551616) := by
              show _ ∧ _
              rw [HQQ.out]; simp; omega
            go_wp2_with (go_at_call 45; refine (signed_is _ _ V E (outQ true P y) _ HS.out.1 HS.out.2 HV.out HE.out).mono ?_; rintro e w1 ⟨rfl, rfl⟩)
            go_ret2
            exact ⟨rfl, rfl⟩
        · have hrn2 : (neg = false ∨ neg = true ∧ r = false) := by cases neg <;> cases r <;> simp_all
          have HR2 := Lib.hid hrn2
          clear hf hrn
          have HQR : Hid (q = (outQ neg P y : Nat)) := by
            show q = _
            rw [HQQ.out]; rcases hrn2 with e | ⟨e, e'⟩ <;> rw [e] <;> (try rw [e']) <;> simp <;> omega
          have HQL : Hid (outQ neg P y < 18446744073709551616) := by
            have := HQR.out; show _ < _; omega
          rcases hrn2 with hz | ⟨hz', hz⟩
          · subst hz
            go_wp2_with (go_at_call 45; refine (signed_is _ _ V E (outQ false P y) _ HQR.out HQL.out HV.out HE.out).mono ?_; rintro e w1 ⟨rfl, rfl⟩)
            all_goals (go_ret2; exact ⟨rfl, rfl⟩)
          · subst hz; subst hz'
            go_wp2_with (go_at_call 45; refine (signed_is _ _ V E (outQ true P y) _ HQR.out HQL.out HV.out HE.out).mono ?_; rintro e w1 ⟨rfl, rfl⟩)
            all_goals (go_ret2; exact ⟨rfl, rfl⟩)
  · have hh0 : (hi == 0) = false := by simpa using hhi
    have hh1 : 0 < hi := by omega
    clear hhi i0
    by_cases hy0 : 0 ≤ y
    · have hV2 : V = 0 ∧ E = 11 := by
        have : 18446744073709551616 ≤ P := by
          have a := HHI.out; have b := beq_eq_false_iff_ne.1 hh0; rw [HP.out]
          rcases Nat.lt_or_ge (A * B) 18446744073709551616 with h | h
          · rw [Nat.div_eq_of_lt h] at a; exact absurd a b
          · exact h
        rw [← HV.out, ← HE.out]; exact out_big (outQ_hi hy0 this)
      obtain ⟨rfl, rfl⟩ := hV2
      go_enter Try.func32, Try.ntmps32
      go_wp2_with (first | (go_at_call 30; refine (class_any b _ hb).mono ?_; rintro e w1 ⟨rfl, rfl⟩; rw [HK.out]) | (go_at_call 40; refine (Frexp_any b c F x (nrx b) _ hb H0.out H2.out HC.out rfl HF.out HX.out).mono ?_; rintro e w1 ⟨rfl, rfl⟩) | (go_at_call 41; refine (Ldexp_frac F L _ HFB.out.1 HFB.out.2 HL.out).mono ?_; rintro e w1 ⟨rfl, rfl⟩) | (go_at_call 43; refine (size_any _ _ (by assumption) (by assumption)).mono ?_; rintro e w1 ⟨rfl, rfl⟩; first | rw [← HA.out] | rw [← HB.out]) | (go_at_call 42; refine (mul_is A B _ _ _ HAB.out.1 HAB.out.2 HHI.out HLO.out).mono ?_; rintro e w1 ⟨rfl, rfl⟩) | (go_at_call 44; refine (len_is _ len _ HLEN.out.1 HLEN.out.2).mono ?_; rintro e w1 ⟨rfl, rfl⟩))
      all_goals (go_ret2; exact ⟨rfl, rfl⟩)
    · have hy0 : y < 0 := by omega
      have HPP : Hid (0 < P) := by
        have a := HHI.out; rw [← HP.out] at a
        show 0 < P
        rcases Nat.eq_zero_or_pos P with h | h
        · rw [h] at a; simp at a; omega
        · exact h
      have hk1 : 0 < (-y).toNat := by omega
      have hk2 : (-y).toNat < 2000 := by omega
      have hk3 : -y = ((-y).toNat : Int) := by omega
      have HK1 := Lib.hid hk1; have HK2 := Lib.hid hk2; have HK3 := Lib.hid hk3; clear hk1 hk2 hk3
      have HY := Lib.hid hy0
      go_enter Try.func32, Try.ntmps32
      go_wp2_with (first | (go_at_call 30; refine (class_any b _ hb).mono ?_; rintro e w1 ⟨rfl, rfl⟩; rw [HK.out]) | (go_at_call 40; refine (Frexp_any b c F x (nrx b) _ hb H0.out H2.out HC.out rfl HF.out HX.out).mono ?_; rintro e w1 ⟨rfl, rfl⟩) | (go_at_call 41; refine (Ldexp_frac F L _ HFB.out.1 HFB.out.2 HL.out).mono ?_; rintro e w1 ⟨rfl, rfl⟩) | (go_at_call 43; refine (size_any _ _ (by assumption) (by assumption)).mono ?_; rintro e w1 ⟨rfl, rfl⟩; first | rw [← HA.out] | rw [← HB.out]) | (go_at_call 42; refine (mul_is A B _ _ _ HAB.out.1 HAB.out.2 HHI.out HLO.out).mono ?_; rintro e w1 ⟨rfl, rfl⟩) | (go_at_call 44; refine (len_is _ len _ HLEN.out.1 HLEN.out.2).mono ?_; rintro e w1 ⟨rfl, rfl⟩))
      refine (down_any P (-y).toNat HP2.out HPP.out HK1.out HK2.out _ _ _ _ (by rw [HP.out]; exact HHI.out) (by rw [HP.out]; exact HLO.out) HK3.out).mono ?_
      rintro e w1 ⟨q, r, f, rfl, rfl, hd⟩
      have hq0 : 0 ≤ q := hd.1
      have hq1 : q < 18446744073709551616 := hd.2.1
      have HD := Lib.hid hd; clear hd
      have HQ := Lib.hid (outQ_down (neg := neg) (P := P) hy0)
      cases hf : f
      · have hV2 : V = 0 ∧ E = 11 := by
          rw [← HV.out, ← HE.out]; refine out_big ?_
          rw [HQ.out]
          have := HD.out.2.2.1; rw [hf] at this
          have := of_decide_eq_false this.symm; omega
        obtain ⟨rfl, rfl⟩ := hV2
        clear hf
        go_wp2
        all_goals (go_ret2; exact ⟨rfl, rfl⟩)
      · have hd2 := HD.out.2.2.2 hf
        have HQQ : Hid (outQ neg P y = q.toNat + if (r && neg) = true then 1 else 0) := by
          have e : q.toNat = P / 2 ^ (-y).toNat := by rw [hd2.1, Int.toNat_natCast]
          have := HQ.out; rw [← e, ← hd2.2] at this; exact this
        clear hd2
        have hq9 : q = (q.toNat : Int) := by omega
        have HQ9 := Lib.hid hq9; clear hq9
        by_cases hrn : neg = true ∧ r = true
        · obtain ⟨hn9, rfl⟩ := hrn
          have HN9 := Lib.hid hn9
          by_cases hq3 : 9223372036854775808 ≤ q
          · have hV2 : V = 0 ∧ E = 11 := by
              rw [← HV.out, ← HE.out]; refine out_big ?_
              rw [HQQ.out, hn9]; simp; omega
            obtain ⟨rfl, rfl⟩ := hV2
            clear hf
            go_wp2
            all_goals (go_ret2; exact ⟨rfl, rfl⟩)
          · have hq4 : q < 9223372036854775808 := by omega
            clear hf hq3
            subst hn9
            have HS : Hid (q + 1 = (outQ true P y : Nat) ∧ outQ true P y < 18446744073709551616) := by
              show _ ∧ _
              rw [HQQ.out]; simp; omega
            go_wp2_with (go_at_call 45; refine (signed_is _ _ V E (outQ true P y) _ HS.out.1 HS.out.2 HV.out HE.out).mono ?_; rintro e w1 ⟨rfl, rfl⟩)
            go_ret2
            exact ⟨rfl, rfl⟩
        · have hrn2 : (neg = false ∨ neg = true ∧ r = false) := by cases neg <;> cases r <;> simp_all
          have HR2 := Lib.hid hrn2
          clear hf hrn
          have HQR : Hid (q = (outQ neg P y : Nat)) := by
            show q = _
            rw [HQQ.out]; rcases hrn2 with e | ⟨e, e'⟩ <;> rw [e] <;> (try rw [e']) <;> simp <;> omega
          have HQL : Hid (outQ neg P y < 18446744073709551616) := by
            have := HQR.out; show _ < _; omega
          rcases hrn2 with hz | ⟨hz', hz⟩
          · subst hz
            go_wp2_with (go_at_call 45; refine (signed_is _ _ V E (outQ false P y) _ HQR.out HQL.out HV.out HE.out).mono ?_; rintro e w1 ⟨rfl, rfl⟩)
            all_goals (go_ret2; exact ⟨rfl, rfl⟩)
          · subst hz; subst hz'
            go_wp2_with (go_at_call 45; refine (signed_is _ _ V E (outQ true P y) _ HQR.out HQL.out HV.out HE.out).mono ?_; rintro e w1 ⟨rfl, rfl⟩)
            all_goals (go_ret2; exact ⟨rfl, rfl⟩)
end Go.Proofs.Ytkfpopilkagedaa
