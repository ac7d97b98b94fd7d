/- Contracts of the document's product: of a number and a finite float. -/
import Derived.Test.YtdemonageoagiaaProdE
set_option linter.unusedSimpArgs false
set_option linter.unusedVariables false
namespace Go.Proofs.Ytdemonageoagiaa
open Go.RowKit Mo
theorem drop_digit (V k x : Nat) (l' : List Nat) (hx : x ≤ 1) (h : x + 2 * val l' = V / 2 ^ k) : val l' = V / 2 ^ (k + 1) ∧ (decide (V % 2 ^ (k + 1) ≠ 0) = (decide (V % 2 ^ k ≠ 0) || decide (x = 1))) := by
  have e : V / 2 ^ (k + 1) = V / 2 ^ k / 2 := by rw [Nat.pow_succ, Nat.div_div_eq_div_mul]
  have hp : 0 < 2 ^ k := Nat.two_pow_pos _
  have hb : V % 2 ^ (k + 1) = V % 2 ^ k + V / 2 ^ k % 2 * 2 ^ k := by rw [Nat.pow_succ, Nat.mod_mul, Nat.mul_comm (2 ^ k)]
  refine ⟨by rw [e, ← h]; omega, ?_⟩
  have hm : V / 2 ^ k % 2 = x := by rw [← h]; omega
  rw [hb, hm]
  rcases (show x = 0 ∨ x = 1 by omega) with rfl | rfl
  · simp
  · rw [Nat.one_mul, decide_eq_true (show V % 2 ^ k + 2 ^ k ≠ 0 by omega)]; simp
theorem drop_none (V k : Nat) (h : 0 = V / 2 ^ k) : 0 = V / 2 ^ (k + 1) ∧ decide (V % 2 ^ (k + 1) ≠ 0) = decide (V % 2 ^ k ≠ 0) := by
  have hp : 0 < 2 ^ k := Nat.two_pow_pos _
  have h1 : V < 2 ^ k := (Nat.div_eq_zero_iff_lt hp).1 h.symm
  have h2 : V < 2 ^ (k + 1) := by rw [Nat.pow_succ]; omega
  exact ⟨(Nat.div_eq_of_lt h2).symm, by rw [Nat.mod_eq_of_lt h1, Nat.mod_eq_of_lt h2]⟩
theorem sq_parts (P x : Nat) : sq P x = P * 2 ^ (x - 1075) / 2 ^ (1075 - x) ∧ sl P x = decide (P * 2 ^ (x - 1075) % 2 ^ (1075 - x) ≠ 0) := by
  unfold sq sl
  generalize 1075 = K
  by_cases h : K ≤ x
  · have h1 : K - x = 0 := by omega
    have h2 : decide (x < K) = false := decide_eq_false (by omega)
    rw [if_pos h, h1, h2, Nat.pow_zero, Nat.div_one, Nat.mod_one, Nat.mod_one]
    exact ⟨rfl, rfl⟩
  · have h1 : x - K = 0 := by omega
    have h2 : decide (x < K) = true := decide_eq_true (by omega)
    rw [if_neg h, h1, h2, Nat.pow_zero, Nat.mul_one, Bool.true_and]
    exact ⟨rfl, rfl⟩
theorem dg_tail {w : World} {ad : Addr} {c y : Nat} {l : List Nat} (h : Dg w (some ad) c (y :: l)) (hc : 1 < c) : Dg w (some ⟨ad.block, ad.off + 1, none⟩) (c - 1) l := by
  refine ⟨⟨by simp, fun hn => ?_⟩, by have := h.le; simp at this; omega, by have := h.mx; omega⟩
  obtain ⟨ad', e, hb, hcell⟩ := h.rd.2 (by simp)
  obtain rfl : ad = ad' := by injection e
  refine ⟨_, rfl, hb, fun j u hu => ?_⟩
  have h1 := hcell (j + 1) u (by simpa using hu)
  unfold Addr.add at h1
  rw [if_neg (by omega)] at h1
  rw [Addr.add_lit]
  show w.cell? ⟨ad.block, ad.off + 1 + j, none⟩ = some u
  rw [Nat.add_assoc, Nat.add_comm 1 j]; exact h1
theorem dg_end {w : World} {A : Option Addr} : Dg w A 0 [] := ⟨⟨rfl, fun h => absurd h (by simp)⟩, Nat.le_refl _, by simp [maxLen]⟩
theorem bits_cons0 {l : List Nat} (h : Mo.bits l) : Mo.bits (0 :: l) := by
  intro y hy
  rcases List.mem_cons.1 hy with rfl | hy
  · omega
  · exact h y hy
theorem val_cons0 {l : List Nat} {P k : Nat} (h : val l = P * 2 ^ k) : val (0 :: l) = P * 2 ^ (k + 1) := by
  show 0 + 2 * val l = _
  rw [Nat.pow_succ, ← Nat.mul_assoc, ← h]; omega
theorem out_ok {s : Bool} {Q : Nat} (h : pfit s Q = true) : outE s Q = 0 := by unfold outE; rw [h]; rfl
theorem out_no {s : Bool} {Q : Nat} (h : pfit s Q = false) : outE s Q = 11 ∧ outV s Q = 0 := by unfold outE outV; rw [h]; exact ⟨rfl, rfl⟩
set_option maxRecDepth 100000 in
set_option maxHeartbeats 8000000 in
theorem rproduct_fin (n : Int) (b : Nat) (up : Bool) (w : World) (n1 : -9223372036854775808 ≤ n) (n2 : n ≤ 9223372036854775807) (hb : b < 18446744073709551616) (h : rung b < 9218868437227405312) :
    Calls Try.prog 21 #[.int .i64 n, .float .f64 b, .bool up] w fun e w' => e = .returned (.tuple #[.int .i64 (prodV n b up), .int .i64 (prodE n b up)]) ∧ Below w.heap.size w w' := by
  have hr := run_bits
  have e1 := frac_and b hb
  have e2 := field_and b hb
  have e3 := top_bit_e b hb
  obtain ⟨f1, f2⟩ := prod_fin n b up h
  obtain ⟨q1, q2⟩ := sq_parts (n.natAbs * Mo.part b) (expf b)
  have hp : pabs n b up = n.natAbs * Mo.part b * 2 ^ (expf b - 1075) / 2 ^ (1075 - expf b) + if (decide (n.natAbs * Mo.part b * 2 ^ (expf b - 1075) % 2 ^ (1075 - expf b) ≠ 0) && (pneg n b != up)) = true then 1 else 0 := by
    unfold pabs; rw [q1, q2]
  rw [f1, f2, hp]
  have hx2 : rung b / 4503599627370496 ≤ 2046 := by omega
  have hE : expf b ≤ 2046 ∧ 1 ≤ expf b := by unfold expf; split <;> omega
  have hP : Mo.part b < 9007199254740992 := by unfold Mo.part; split <;> omega
  have hXE : (rung b / 4503599627370496 = 0 ∧ expf b = 1 ∧ Mo.part b = rung b % 4503599627370496) ∨ (0 < rung b / 4503599627370496 ∧ expf b = rung b / 4503599627370496 ∧ Mo.part b = rung b % 4503599627370496 + 4503599627370496) := by
    unfold expf Mo.part
    by_cases h0 : rung b < 4503599627370496
    · left; rw [if_pos h0, if_pos h0]; omega
    · right; rw [if_neg h0, if_neg h0]; omega
  have hr53 : rung b % 4503599627370496 < 4503599627370496 := Nat.mod_lt _ (by decide)
  have hng : pneg n b = (decide (n < 0) != isNeg b) := rfl
  generalize pneg n b = s at *
  generalize isNeg b = g at *
  obtain ⟨t, ht⟩ : ∃ t, decide (n < 0) = t := ⟨_, rfl⟩
  rw [ht] at hng
  have hs2 : (!(t == g)) = s := by rw [hng]; cases t <;> cases g <;> rfl
  have hA : n.natAbs < 18446744073709551616 := by omega
  generalize Mo.part b = p at *
  generalize expf b = x at *
  generalize rung b / 4503599627370496 = X at *
  generalize rung b % 4503599627370496 = r at *
  clear f1 f2 q1 q2 hp h hng
  have HA1 := Lib.hid (length_dig n.natAbs 64 (by omega))
  have HA2 := Lib.hid (length_dig p 64 (by omega))
  have HV := Lib.hid (show val (dig n.natAbs) * val (dig p) = n.natAbs * p by rw [val_dig, val_dig])
  obtain ⟨P, hPP⟩ : ∃ P, n.natAbs * p = P := ⟨_, rfl⟩
  rw [hPP] at HV ⊢
  clear hPP
  obtain ⟨RV, hRV⟩ : ∃ R, outV s (P * 2 ^ (x - 1075) / 2 ^ (1075 - x) + if (decide (P * 2 ^ (x - 1075) % 2 ^ (1075 - x) ≠ 0) && (s != up)) = true then 1 else 0) = R := ⟨_, rfl⟩
  obtain ⟨RE, hRE⟩ : ∃ R, outE s (P * 2 ^ (x - 1075) / 2 ^ (1075 - x) + if (decide (P * 2 ^ (x - 1075) % 2 ^ (1075 - x) ≠ 0) && (s != up)) = true then 1 else 0) = R := ⟨_, rfl⟩
  rw [hRV, hRE]
  have HRV := Lib.hid hRV
  have HRE := Lib.hid hRE
  clear hRV hRE
  have hX1 : ((X : Int) == 2047) = false := beq_eq_false_iff_ne.2 (by omega)
  have hX2 : (X == 2047) = false := beq_eq_false_iff_ne.2 (by omega)
  have hp2 : (p : Nat) < 18446744073709551616 := by omega
  have wp : 0 < X → IntKind.u64.wrap ((r : Int) + 4503599627370496) = (p : Nat) := by intro h0; rw [wrap_u64]; omega
  have HXE := Lib.hid hXE
  clear hXE
  obtain ⟨i0, hi, hz0, hz1, hz2⟩ := info_parts info_u8
  rcases (show X = 0 ∨ 0 < X by omega) with h0 | h0
  · have hxx : x = 1 := by rcases HXE.out with ⟨_, h, _⟩ | ⟨h, _⟩ <;> omega
    have hpr : p = r := by rcases HXE.out with ⟨_, _, h⟩ | ⟨h, _⟩ <;> omega
    have HXX := Lib.hid hxx
    subst h0 hpr
    clear wp hX1 hX2 hxx hE HXE
    go_enter Try.func21, Try.ntmps21
    go_wp2_with (first
      | (go_at_call 32; refine (rsize_any n _ n1 n2).mono ?_; rintro e w1 ⟨rfl, rfl⟩)
      | (go_at_call 31; (have := HD1; clear this); refine (digits_any p _ hp2).mono ?_; rintro e w3 ⟨A2, c2, rfl, hd2, hb2⟩; have HD2 := Lib.hid hd2; (have HD3 := Lib.hid (HD1.out.pass hb2)); (have HB2 := Lib.hid (below_then HB1.out hb2)); clear hd2 hb2)
      | (go_at_call 31; refine (digits_any n.natAbs _ hA).mono ?_; rintro e w2 ⟨A1, c1, rfl, hd1, hb1⟩; have HD1 := Lib.hid hd1; have HB1 := Lib.hid hb1; clear hd1 hb1)
      | (go_at_call 30; refine (product_any _ A1 c1 (dig n.natAbs) A2 c2 (dig p) HD3.out HD2.out (bits_dig _) (bits_dig _) (Nat.le_trans HA1.out (by decide)) (Nat.le_trans HA2.out (by decide))).mono ?_; rintro e w4 ⟨A3, c3, l3, rfl, hd4, bl4, hv4, hl4, hb4⟩; have HD4 := Lib.hid hd4; have BL4 := Lib.hid bl4; have HV4 := Lib.hid (hv4.trans HV.out); (have HL4 := Lib.hid (show l3.length ≤ 200 by have := HA1.out; have := HA2.out; omega)); (have HB4 := Lib.hid (below_then HB2.out hb4)); clear hd4 bl4 hv4 hl4 hb4))
    go_loopw [12, 13] (fun dd ii wr => ∃ (k : Nat) (A : Option Addr) (c : Nat) (l : List Nat), (k = 0 ∨ 1075 + k ≤ x) ∧ ii = .int .i64 ((1075 + k : Nat) : Int) ∧ dd = .slice A l.length c ∧ l.length ≤ 200 + k ∧ Hid (Dg wr A c l) ∧ Hid (Mo.bits l ∧ val l = P * 2 ^ k) ∧ Hid (Below w.heap.size w wr)) (fun _ ii _ => x - (intOf ii).toNat)
    case atStart => exact ⟨0, A3, c3, l3, .inl rfl, rfl, rfl, HL4.out, HD4, Lib.hid ⟨BL4.out, by rw [HV4.out]; simp⟩, HB4⟩
    case round =>
      obtain ⟨k, A, c, l, hk, rfl, rfl, hl, HD, HV, HW⟩ := hrel
      rename World => wo
      obtain rfl : k = 0 := by have := HXX.out; omega
      · have hxl := HXX.out
        have hV0 := HV.out.2
        rw [show (0 : Nat) = x - 1075 by omega] at hV0
        obtain ⟨V0, hV1⟩ : ∃ V, P * 2 ^ (x - 1075) = V := ⟨_, rfl⟩
        rw [hV1] at hV0
        have HV1 := Lib.hid hV1
        have HV0 := Lib.hid hV0
        have hl3 : l.length ≤ 3000 := by omega
        clear hV1 hV0 hxl
        go_wp2_with fail
        go_loopw [12, 14, 15] (fun dd lo ii wr => ∃ (j : Nat) (A : Option Addr) (c : Nat) (l : List Nat) (q : Bool), (j = 0 ∨ x + j ≤ 1075) ∧ ii = .int .i64 ((x + j : Nat) : Int) ∧ dd = .slice A l.length c ∧ lo = .bool q ∧ l.length ≤ 3000 ∧ Hid (Dg wr A c l) ∧ Hid (Mo.bits l ∧ val l = V0 / 2 ^ j ∧ decide (V0 % 2 ^ j ≠ 0) = q) ∧ Hid (Below w.heap.size w wr)) (fun _ _ ii _ => 1075 - (intOf ii).toNat)
        case atStart => exact ⟨0, A, c, l, false, .inl rfl, congrArg (Value.int .i64) (by have := HXX.out; omega), rfl, rfl, hl3, HD, Lib.hid ⟨HV.out.1, by rw [HV0.out, Nat.pow_zero, Nat.div_one], by rw [Nat.pow_zero, Nat.mod_one]; rfl⟩, HW⟩
        case round =>
          clear HV HD HW hl hl3 hk
          obtain ⟨j, A, c, l, q, hj, rfl, rfl, rfl, hl, HD, HV, HW⟩ := hrel
          by_cases hlt : x + j < 1075
          · have hd : decide ((x : Int) + j < 1075) = true := by simp; omega
            cases l with
            | nil =>
              have hdn := drop_none V0 j (by have := HV.out.2.1; simpa [val] using this)
              have HDN := Lib.hid hdn
              clear hdn
              go_wp2_with fail
              go_roundw
              case rel => exact ⟨j + 1, A, c, [], q, .inr (by omega), congrArg (Value.int .i64) (by omega), rfl, rfl, by simp, HD, Lib.hid ⟨HV.out.1, HDN.out.1, by rw [HDN.out.2]; exact HV.out.2.2⟩, HW⟩
              case measure => simp [intOf]; omega
            | cons y l' =>
              have hyb : y ≤ 1 := HV.out.1 y List.mem_cons_self
              have hdd := drop_digit V0 j y l' hyb (by have := HV.out.2.1; simpa [val] using this)
              rw [HV.out.2.2] at hdd
              have HDD := Lib.hid hdd
              clear hdd
              obtain ⟨ad, u, rfl, hadb, hu, hcell⟩ := HD.out.rd.at_ (k := 0) (by simp)
              obtain rfl : u = .int .u8 (y : Nat) := by simp [u8v] at hu; rw [← hu]
              have ead : ad.add 0 = ad := by cases ad; simp [Addr.add]
              rw [ead] at hcell
              have hle := HD.out.le
              simp only [List.length_cons] at hl hle
              have hlp : (0 : Int) < (l'.length : Int) + 1 := by omega
              have hlc : (l'.length : Int) + 1 ≤ c := by omega
              clear hu ead
              rcases (show (c = 1 ∧ l'.length = 0) ∨ 1 < c by omega) with ⟨rfl, hz⟩ | hc1
              · obtain rfl : l' = [] := List.eq_nil_of_length_eq_zero hz
                rcases (show y = 0 ∨ y = 1 by omega) with rfl | rfl <;> cases q
                all_goals
                  go_wp2_with fail
                  go_roundw
                  case rel => exact ⟨j + 1, _, 0, [], _, .inr (by omega), congrArg (Value.int .i64) (by omega), rfl, rfl, by simp, Lib.hid dg_end, Lib.hid ⟨(by intro z hz; cases hz), HDD.out.1, by rw [HDD.out.2]; rfl⟩, HW⟩
                  case measure => simp [intOf]; omega
              · have HT := Lib.hid (dg_tail HD.out hc1)
                rcases (show y = 0 ∨ y = 1 by omega) with rfl | rfl <;> cases q
                all_goals
                  go_wp2_with fail
                  go_roundw
                  case rel => exact ⟨j + 1, _, c - 1, l', _, .inr (by omega), congrArg (Value.int .i64) (by omega), rfl, rfl, by omega, HT, Lib.hid ⟨fun z hz => HV.out.1 z (List.mem_cons_of_mem _ hz), HDD.out.1, by rw [HDD.out.2]; rfl⟩, HW⟩
                  case measure => simp [intOf]; omega
          · have hd : decide ((x : Int) + j < 1075) = false := by simp; omega
            have hd4 : ¬ ((x : Int) + j < 1075) := by omega
            have hjx : j = 1075 - x := by omega
            have hv := HV.out.2.1
            have hq := HV.out.2.2
            rw [hjx] at hv hq
            have hrv := HRV.out
            have hre := HRE.out
            rw [HV1.out, ← hv, hq] at hrv hre
            have BL := Lib.hid HV.out.1
            have hl5 : l.length ≤ 5000 := by omega
            clear hv hq hjx HV HV0 HV1 hd hj hlt HRV HRE
            cases q
            · simp only [Bool.false_and, Bool.false_eq_true, if_false, Nat.add_zero] at hrv hre
              have HRV := Lib.hid hrv; have HRE := Lib.hid hre; clear hrv hre
              obtain ⟨z, hz⟩ : ∃ z, pfit s (val l) = z := ⟨_, rfl⟩
              have HZ := Lib.hid hz; clear hz
              cases z
              all_goals
                go_wp2_with (go_at_call 34; refine (number_any _ A c l s HD.out BL.out hl5).mono ?_; rintro e w6 ⟨rfl, rfl⟩; rw [HZ.out])
                go_ret2
                refine ⟨ret_two ?_ ?_, HW.out⟩
                · first | exact HRV.out | exact (out_no HZ.out).2.symm.trans HRV.out
                · first | exact (out_ok HZ.out).symm.trans HRE.out | exact (out_no HZ.out).1.symm.trans HRE.out
            · simp only [Bool.true_and] at hrv hre
              obtain ⟨d, hd⟩ : ∃ d, (s != up) = d := ⟨_, rfl⟩
              rw [hd] at hrv hre
              have hd' : (!(s == up)) = d := hd
              clear hd
              cases d
              · simp only [Bool.false_eq_true, if_false, Nat.add_zero] at hrv hre
                have HRV := Lib.hid hrv; have HRE := Lib.hid hre; clear hrv hre
                obtain ⟨z, hz⟩ : ∃ z, pfit s (val l) = z := ⟨_, rfl⟩
                have HZ := Lib.hid hz; clear hz
                cases z
                all_goals
                  go_wp2_with (go_at_call 34; refine (number_any _ A c l s HD.out BL.out hl5).mono ?_; rintro e w6 ⟨rfl, rfl⟩; rw [HZ.out])
                  go_ret2
                  refine ⟨ret_two ?_ ?_, HW.out⟩
                  · first | exact HRV.out | exact (out_no HZ.out).2.symm.trans HRV.out
                  · first | exact (out_ok HZ.out).symm.trans HRE.out | exact (out_no HZ.out).1.symm.trans HRE.out
              · simp only [if_true] at hrv hre
                have HRV := Lib.hid hrv; have HRE := Lib.hid hre; clear hrv hre
                obtain ⟨z, hz⟩ : ∃ z, pfit s (val l + 1) = z := ⟨_, rfl⟩
                have HZ := Lib.hid hz; clear hz
                cases z
                all_goals
                  go_wp2_with (first
                    | (go_at_call 33; refine (more_any _ A c l HD.out BL.out hl5).mono ?_; rintro e w7 ⟨A7, c7, l7, rfl, hd7, bl7, hv7, hl7, hb7⟩; have HD7 := Lib.hid hd7; have BL7 := Lib.hid bl7; have HV7 := Lib.hid hv7; (have HL7 := Lib.hid (show l7.length ≤ 5000 by omega)); (have HW7 := Lib.hid (below_then HW.out hb7)); clear hd7 bl7 hv7 hl7 hb7)
                    | (go_at_call 34; refine (number_any _ A7 c7 l7 s HD7.out BL7.out HL7.out).mono ?_; rintro e w6 ⟨rfl, rfl⟩; rw [HV7.out, HZ.out]))
                  go_ret2
                  refine ⟨ret_two ?_ ?_, HW7.out⟩
                  · first | exact HRV.out | exact (out_no HZ.out).2.symm.trans HRV.out
                  · first | exact (out_ok HZ.out).symm.trans HRE.out | exact (out_no HZ.out).1.symm.trans HRE.out
  · have hxx : x = X := by rcases HXE.out with ⟨h, _, _⟩ | ⟨_, h, _⟩ <;> omega
    subst hxx
    have hwp := wp h0
    have hX0 : ((x : Int) == 0) = false := beq_eq_false_iff_ne.2 (by omega)
    have hX3 : (x == 0) = false := beq_eq_false_iff_ne.2 (by omega)
    clear wp HXE
    go_enter Try.func21, Try.ntmps21
    go_wp2_with (first
      | (go_at_call 32; refine (rsize_any n _ n1 n2).mono ?_; rintro e w1 ⟨rfl, rfl⟩)
      | (go_at_call 31; (have := HD1; clear this); refine (digits_any p _ hp2).mono ?_; rintro e w3 ⟨A2, c2, rfl, hd2, hb2⟩; have HD2 := Lib.hid hd2; (have HD3 := Lib.hid (HD1.out.pass hb2)); (have HB2 := Lib.hid (below_then HB1.out hb2)); clear hd2 hb2)
      | (go_at_call 31; refine (digits_any n.natAbs _ hA).mono ?_; rintro e w2 ⟨A1, c1, rfl, hd1, hb1⟩; have HD1 := Lib.hid hd1; have HB1 := Lib.hid hb1; clear hd1 hb1)
      | (go_at_call 30; refine (product_any _ A1 c1 (dig n.natAbs) A2 c2 (dig p) HD3.out HD2.out (bits_dig _) (bits_dig _) (Nat.le_trans HA1.out (by decide)) (Nat.le_trans HA2.out (by decide))).mono ?_; rintro e w4 ⟨A3, c3, l3, rfl, hd4, bl4, hv4, hl4, hb4⟩; have HD4 := Lib.hid hd4; have BL4 := Lib.hid bl4; have HV4 := Lib.hid (hv4.trans HV.out); (have HL4 := Lib.hid (show l3.length ≤ 200 by have := HA1.out; have := HA2.out; omega)); (have HB4 := Lib.hid (below_then HB2.out hb4)); clear hd4 bl4 hv4 hl4 hb4))
    go_loopw [12, 13] (fun dd ii wr => ∃ (k : Nat) (A : Option Addr) (c : Nat) (l : List Nat), (k = 0 ∨ 1075 + k ≤ x) ∧ ii = .int .i64 ((1075 + k : Nat) : Int) ∧ dd = .slice A l.length c ∧ l.length ≤ 200 + k ∧ Hid (Dg wr A c l) ∧ Hid (Mo.bits l ∧ val l = P * 2 ^ k) ∧ Hid (Below w.heap.size w wr)) (fun _ ii _ => x - (intOf ii).toNat)
    case atStart => exact ⟨0, A3, c3, l3, .inl rfl, rfl, rfl, HL4.out, HD4, Lib.hid ⟨BL4.out, by rw [HV4.out]; simp⟩, HB4⟩
    case round =>
      obtain ⟨k, A, c, l, hk, rfl, rfl, hl, HD, HV, HW⟩ := hrel
      rename World => wo
      by_cases hlt : 1075 + k < x
      · have hd : decide ((1075 : Int) + k < x) = true := by simp; omega
        have hwo := HW.out.size
        go_wp2_with (at_builtin; refine wpList_append_any _ rfl (.tmp 66) (.tmp 67) 87 rfl wo.heap.size 5 i0 (.int .u8 0) 1 1 Try.underlying87 hi hz0 hz1 hz2 rfl (by decide) (.slice (some ⟨wo.heap.size, 0, none⟩) 1 1) 1 [.int .u8 0] rfl (own_new #[.int .u8 0] 1 rfl (by simp [maxLen]) rfl) _ A l.length c (l.map u8v) rfl (HD.out.rd.al _) (one_u8 _) (by unfold maxLen; omega) (by omega) (by simp) ?_; intro v1 w5 ho1 hg1 _; (have HO := Lib.hid (own_dg (l := 0 :: l) (n := 1 + l.length) (by simpa [u8v] using ho1) (by simp; omega))); (have HB5 : Hid (Below w.heap.size w w5) := Lib.hid (Below.grown (HW.out.alloc HW.out.size _) hg1 (by simp; omega) (fun k e => by simp [Value.ownBlock] at e; omega))); clear ho1 hg1)
        obtain ⟨A', c', rfl, hdg⟩ := HO.out
        go_roundw
        case rel => exact ⟨k + 1, A', c', 0 :: l, .inr (by omega), congrArg (Value.int .i64) (by omega), rfl, by simp; omega, Lib.hid hdg, Lib.hid ⟨bits_cons0 HV.out.1, val_cons0 HV.out.2⟩, HB5⟩
        case measure => simp [intOf]; omega
      · have hd : decide ((1075 : Int) + k < x) = false := by simp; omega
        have hd4 : ¬ ((1075 : Int) + k < x) := by omega
        have hkx : k = x - 1075 := by omega
        have hV0 := HV.out.2
        rw [hkx] at hV0
        obtain ⟨V0, hV1⟩ : ∃ V, P * 2 ^ (x - 1075) = V := ⟨_, rfl⟩
        rw [hV1] at hV0
        have HV1 := Lib.hid hV1
        have HV0 := Lib.hid hV0
        have hl3 : l.length ≤ 3000 := by omega
        clear hV1 hV0 hkx hd
        go_wp2_with fail
        go_loopw [12, 14, 15] (fun dd lo ii wr => ∃ (j : Nat) (A : Option Addr) (c : Nat) (l : List Nat) (q : Bool), (j = 0 ∨ x + j ≤ 1075) ∧ ii = .int .i64 ((x + j : Nat) : Int) ∧ dd = .slice A l.length c ∧ lo = .bool q ∧ l.length ≤ 3000 ∧ Hid (Dg wr A c l) ∧ Hid (Mo.bits l ∧ val l = V0 / 2 ^ j ∧ decide (V0 % 2 ^ j ≠ 0) = q) ∧ Hid (Below w.heap.size w wr)) (fun _ _ ii _ => 1075 - (intOf ii).toNat)
        case atStart => exact ⟨0, A, c, l, false, .inl rfl, congrArg (Value.int .i64) (by omega), rfl, rfl, hl3, HD, Lib.hid ⟨HV.out.1, by rw [HV0.out, Nat.pow_zero, Nat.div_one], by rw [Nat.pow_zero, Nat.mod_one]; rfl⟩, HW⟩
        case round =>
          clear HV HD HW hl hl3 hlt hd4 hk
          obtain ⟨j, A, c, l, q, hj, rfl, rfl, rfl, hl, HD, HV, HW⟩ := hrel
          by_cases hlt : x + j < 1075
          · have hd : decide ((x : Int) + j < 1075) = true := by simp; omega
            cases l with
            | nil =>
              have hdn := drop_none V0 j (by have := HV.out.2.1; simpa [val] using this)
              have HDN := Lib.hid hdn
              clear hdn
              go_wp2_with fail
              go_roundw
              case rel => exact ⟨j + 1, A, c, [], q, .inr (by omega), congrArg (Value.int .i64) (by omega), rfl, rfl, by simp, HD, Lib.hid ⟨HV.out.1, HDN.out.1, by rw [HDN.out.2]; exact HV.out.2.2⟩, HW⟩
              case measure => simp [intOf]; omega
            | cons y l' =>
              have hyb : y ≤ 1 := HV.out.1 y List.mem_cons_self
              have hdd := drop_digit V0 j y l' hyb (by have := HV.out.2.1; simpa [val] using this)
              rw [HV.out.2.2] at hdd
              have HDD := Lib.hid hdd
              clear hdd
              obtain ⟨ad, u, rfl, hadb, hu, hcell⟩ := HD.out.rd.at_ (k := 0) (by simp)
              obtain rfl : u = .int .u8 (y : Nat) := by simp [u8v] at hu; rw [← hu]
              have ead : ad.add 0 = ad := by cases ad; simp [Addr.add]
              rw [ead] at hcell
              have hle := HD.out.le
              simp only [List.length_cons] at hl hle
              have hlp : (0 : Int) < (l'.length : Int) + 1 := by omega
              have hlc : (l'.length : Int) + 1 ≤ c := by omega
              clear hu ead
              rcases (show (c = 1 ∧ l'.length = 0) ∨ 1 < c by omega) with ⟨rfl, hz⟩ | hc1
              · obtain rfl : l' = [] := List.eq_nil_of_length_eq_zero hz
                rcases (show y = 0 ∨ y = 1 by omega) with rfl | rfl <;> cases q
                all_goals
                  go_wp2_with fail
                  go_roundw
                  case rel => exact ⟨j + 1, _, 0, [], _, .inr (by omega), congrArg (Value.int .i64) (by omega), rfl, rfl, by simp, Lib.hid dg_end, Lib.hid ⟨(by intro z hz; cases hz), HDD.out.1, by rw [HDD.out.2]; rfl⟩, HW⟩
                  case measure => simp [intOf]; omega
              · have HT := Lib.hid (dg_tail HD.out hc1)
                rcases (show y = 0 ∨ y = 1 by omega) with rfl | rfl <;> cases q
                all_goals
                  go_wp2_with fail
                  go_roundw
                  case rel => exact ⟨j + 1, _, c - 1, l', _, .inr (by omega), congrArg (Value.int .i64) (by omega), rfl, rfl, by omega, HT, Lib.hid ⟨fun z hz => HV.out.1 z (List.mem_cons_of_mem _ hz), HDD.out.1, by rw [HDD.out.2]; rfl⟩, HW⟩
                  case measure => simp [intOf]; omega
          · have hd : decide ((x : Int) + j < 1075) = false := by simp; omega
            have hd4 : ¬ ((x : Int) + j < 1075) := by omega
            have hjx : j = 1075 - x := by omega
            have hv := HV.out.2.1
            have hq := HV.out.2.2
            rw [hjx] at hv hq
            have hrv := HRV.out
            have hre := HRE.out
            rw [HV1.out, ← hv, hq] at hrv hre
            have BL := Lib.hid HV.out.1
            have hl5 : l.length ≤ 5000 := by omega
            clear hv hq hjx HV HV0 HV1 hd hj hlt HRV HRE
            cases q
            · simp only [Bool.false_and, Bool.false_eq_true, if_false, Nat.add_zero] at hrv hre
              have HRV := Lib.hid hrv; have HRE := Lib.hid hre; clear hrv hre
              obtain ⟨z, hz⟩ : ∃ z, pfit s (val l) = z := ⟨_, rfl⟩
              have HZ := Lib.hid hz; clear hz
              cases z
              all_goals
                go_wp2_with (go_at_call 34; refine (number_any _ A c l s HD.out BL.out hl5).mono ?_; rintro e w6 ⟨rfl, rfl⟩; rw [HZ.out])
                go_ret2
                refine ⟨ret_two ?_ ?_, HW.out⟩
                · first | exact HRV.out | exact (out_no HZ.out).2.symm.trans HRV.out
                · first | exact (out_ok HZ.out).symm.trans HRE.out | exact (out_no HZ.out).1.symm.trans HRE.out
            · simp only [Bool.true_and] at hrv hre
              obtain ⟨d, hd⟩ : ∃ d, (s != up) = d := ⟨_, rfl⟩
              rw [hd] at hrv hre
              have hd' : (!(s == up)) = d := hd
              clear hd
              cases d
              · simp only [Bool.false_eq_true, if_false, Nat.add_zero] at hrv hre
                have HRV := Lib.hid hrv; have HRE := Lib.hid hre; clear hrv hre
                obtain ⟨z, hz⟩ : ∃ z, pfit s (val l) = z := ⟨_, rfl⟩
                have HZ := Lib.hid hz; clear hz
                cases z
                all_goals
                  go_wp2_with (go_at_call 34; refine (number_any _ A c l s HD.out BL.out hl5).mono ?_; rintro e w6 ⟨rfl, rfl⟩; rw [HZ.out])
                  go_ret2
                  refine ⟨ret_two ?_ ?_, HW.out⟩
                  · first | exact HRV.out | exact (out_no HZ.out).2.symm.trans HRV.out
                  · first | exact (out_ok HZ.out).symm.trans HRE.out | exact (out_no HZ.out).1.symm.trans HRE.out
              · simp only [if_true] at hrv hre
                have HRV := Lib.hid hrv; have HRE := Lib.hid hre; clear hrv hre
                obtain ⟨z, hz⟩ : ∃ z, pfit s (val l + 1) = z := ⟨_, rfl⟩
                have HZ := Lib.hid hz; clear hz
                cases z
                all_goals
                  go_wp2_with (first
                    | (go_at_call 33; refine (more_any _ A c l HD.out BL.out hl5).mono ?_; rintro e w7 ⟨A7, c7, l7, rfl, hd7, bl7, hv7, hl7, hb7⟩; have HD7 := Lib.hid hd7; have BL7 := Lib.hid bl7; have HV7 := Lib.hid hv7; (have HL7 := Lib.hid (show l7.length ≤ 5000 by omega)); (have HW7 := Lib.hid (below_then HW.out hb7)); clear hd7 bl7 hv7 hl7 hb7)
                    | (go_at_call 34; refine (number_any _ A7 c7 l7 s HD7.out BL7.out HL7.out).mono ?_; rintro e w6 ⟨rfl, rfl⟩; rw [HV7.out, HZ.out]))
                  go_ret2
                  refine ⟨ret_two ?_ ?_, HW7.out⟩
                  · first | exact HRV.out | exact (out_no HZ.out).2.symm.trans HRV.out
                  · first | exact (out_ok HZ.out).symm.trans HRE.out | exact (out_no HZ.out).1.symm.trans HRE.out
end Go.Proofs.Ytdemonageoagiaa
