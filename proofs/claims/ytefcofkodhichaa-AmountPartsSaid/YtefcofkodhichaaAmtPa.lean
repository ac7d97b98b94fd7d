/- AmountParts: the walk. -/
import Derived.Test.YtefcofkodhichaaAmtTo
set_option linter.unusedSimpArgs false
set_option linter.unusedVariables false
namespace Go.Proofs.Ytefcofkodhichaa
open Go.RowKit Mo
theorem sp_range (n b r : Int) (q k : Nat) (hb : n / (q : Int) = b) (hr : n % (q : Int) = r) (h0 : 0 ≤ r) : sumA ((List.range k).map (sp n q)) = k * b + (if (k : Int) < r then (k : Int) else r) := by
  induction k with
  | zero => simp [sumA]; omega
  | succ k ih =>
    rw [List.range_succ, List.map_append, sumA_append, ih]
    have e : sumA (List.map (sp n q) [k]) = b + (if (k : Int) < r then 1 else 0) := by simp [sumA, sp, hb, hr]
    rw [e, show ((k + 1 : Nat) : Int) * b = k * b + b by rw [Int.natCast_add, Int.add_mul]; simp]
    generalize (k : Int) * b = z
    split <;> split <;> omega
structure PartsOk (n : Int) (q : Nat) (l : List Int) : Prop where
  len : l.length = q
  sum : sumA l = n
  all : l.all isA = true
  at_ : ∀ k, ∀ h : k < l.length, 0 ≤ l[k] ∧ l[k] ≤ n ∧ (∀ h0 : 0 < l.length, l[0] - l[k] ≤ 1 ∧ l[k] ≤ l[0]) ∧ (∀ h1 : k - 1 < l.length, l[k] ≤ l[k - 1])
theorem parts_ok (n : Int) (q : Nat) (hq : 1 ≤ q) (hn : 0 ≤ n) (hn2 : n ≤ 1000000000000000) : PartsOk n q (splitL n q) := by
  obtain ⟨b, hb⟩ : ∃ b, n / (q : Int) = b := ⟨_, rfl⟩
  obtain ⟨r, hr⟩ : ∃ r, n % (q : Int) = r := ⟨_, rfl⟩
  have hbb : 0 ≤ b := by rw [← hb]; exact Int.ediv_nonneg hn (by omega)
  have hr0 : 0 ≤ r := by rw [← hr]; exact Int.emod_nonneg _ (by omega)
  have hr1 : r < q := by rw [← hr]; exact Int.emod_lt_of_pos _ (by omega)
  have hnn : n = (q : Int) * b + r := by rw [← hb, ← hr]; exact (Int.mul_ediv_add_emod n q).symm
  have hqb : b ≤ (q : Int) * b := by
    have := Int.mul_le_mul_of_nonneg_right (show (1 : Int) ≤ q by omega) hbb
    rw [Int.one_mul] at this; exact this
  have hsp : ∀ i : Nat, sp n q i = b + (if (i : Int) < r then 1 else 0) := fun i => by unfold sp; rw [hb, hr]
  have hget : ∀ k, ∀ h : k < (splitL n q).length, (splitL n q)[k] = sp n q k := fun k h => by simp [splitL]
  have hat : ∀ k, ∀ h : k < (splitL n q).length, 0 ≤ (splitL n q)[k] ∧ (splitL n q)[k] ≤ n := by
    intro k h
    rw [hget k h, hsp k]
    generalize (q : Int) * b = z at *
    split <;> omega
  refine ⟨splitL_len n q, ?_, ?_, fun k h => ⟨(hat k h).1, (hat k h).2, fun h0 => ?_, fun h1 => ?_⟩⟩
  · unfold splitL
    rw [sp_range n b r q q hb hr hr0, if_neg (by omega)]
    omega
  · rw [List.all_eq_true]
    intro x hx
    obtain ⟨j, hj, rfl⟩ := List.getElem_of_mem hx
    have := hat j hj
    exact isA_iff.2 (by omega)
  · rw [hget 0 h0, hget k h, hsp 0, hsp k]
    split <;> split <;> omega
  · rw [hget (k - 1) h1, hget k h, hsp (k - 1), hsp k]
    split <;> split <;> omega
set_option maxHeartbeats 4000000 in
theorem amountParts_walk (w : World) (n : Int) (wn : (Lit.int .i64 n).wf = true) (p : Int) (wp : (Lit.int .i64 p).wf = true) :
    Calls Try.prog 7 #[.int .i64 n, .int .i64 p] w fun e w' => e = .returned (.bool true) ∧ Below w.heap.size w w' := by
  obtain ⟨n1, n2⟩ := i64_wf wn
  obtain ⟨p1, p2⟩ := i64_wf wp
  have HB : Hid (Below w.heap.size w w) := Lib.hid (Below.refl _ _)
  clear wn wp
  rcases (show isA n = false ∨ (isA n = true ∧ (p < 1 ∨ 1000 < p)) ∨ (isA n = true ∧ 1 ≤ p ∧ p ≤ 1000) by cases isA n <;> simp; omega) with h | ⟨h, h2⟩ | ⟨h, h2, h3⟩
  · have HH := Lib.hid h
    clear h
    go_enter Try.func7, Try.ntmps7
    go_wp2_with (first
      | (go_at_call 15; refine (awake04_any _).mono ?_; rintro e w5 ⟨rfl, hb⟩; replace HB := Lib.hid (below_then (w := w) (by repeat (first | exact HB.out | refine below_alloc_ ?_ _ | exact Below.refl _ _)) hb); clear hb)
      | (go_at_call 20; refine ((split_any _ _ _ n1 n2 p1 p2).mono (split_low HH.out)).mono ?_; rintro e w5 ⟨rfl, hb⟩; replace HB := Lib.hid (below_then (w := w) (by repeat (first | exact HB.out | refine below_alloc_ ?_ _ | exact Below.refl _ _)) hb); clear hb))
    go_ret
    exact ⟨rfl, HB.out⟩
  · have HH := Lib.hid h; have HH2 := Lib.hid h2
    clear h h2
    go_enter Try.func7, Try.ntmps7
    go_wp2_with (first
      | (go_at_call 15; refine (awake04_any _).mono ?_; rintro e w5 ⟨rfl, hb⟩; replace HB := Lib.hid (below_then (w := w) (by repeat (first | exact HB.out | refine below_alloc_ ?_ _ | exact Below.refl _ _)) hb); clear hb)
      | (go_at_call 20; refine ((split_any _ _ _ n1 n2 p1 p2).mono (split_mid HH.out HH2.out)).mono ?_; rintro e w5 ⟨rfl, hb⟩; replace HB := Lib.hid (below_then (w := w) (by repeat (first | exact HB.out | refine below_alloc_ ?_ _ | exact Below.refl _ _)) hb); clear hb))
    go_ret
    exact ⟨rfl, HB.out⟩
  · have HH := Lib.hid h; have HH2 := Lib.hid h2; have HH3 := Lib.hid h3
    obtain ⟨a1, a2⟩ := isA_iff.1 h
    obtain ⟨q, rfl⟩ : ∃ q : Nat, p = q := ⟨p.toNat, by omega⟩
    have hpo := parts_ok n q (by omega) a1 a2
    obtain ⟨l, hl⟩ : ∃ l, splitL n ((q : Int)).toNat = l := ⟨_, rfl⟩
    have hpo2 : PartsOk n q l := by rw [← hl]; exact hpo
    have HPO := Lib.hid hpo2
    have hlq := hpo2.len
    have hlq0 : 0 < l.length := by omega
    have HL := Lib.hid hl
    clear h h2 h3 hl hpo hpo2
    have hlen : ((l.length : Int) == q) = true := by simp; omega
    have hlen2 : (l.length == q) = true := by simp; omega
    have HLQ := Lib.hid hlq
    clear hlq
    go_enter Try.func7, Try.ntmps7
    go_wp2_with (first
      | (go_at_call 20; refine ((split_any _ _ _ n1 n2 p1 p2).mono (split_hi HH.out HH2.out HH3.out)).mono ?_; rw [HL.out]; rintro e w5 ⟨A1, c1, rfl, hli, hb⟩; have HA := Lib.hid hli; clear hli; replace HB := Lib.hid (below_then (w := w) (by repeat (first | exact HB.out | refine below_alloc_ ?_ _ | exact Below.refl _ _)) hb); clear hb)
      | (go_at_call 15; refine (awake04_any _).mono ?_; rintro e w7 ⟨rfl, hb⟩; (have HA4 := Lib.hid (HA.out.pass hb)); replace HB := Lib.hid (below_then (w := w) (by repeat (first | exact HB.out | refine below_alloc_ ?_ _ | exact Below.refl _ _)) hb); clear hb))
    go_loopw [7, 8] (fun ss ii wr => ∃ (k : Nat) (s : Int), k ≤ l.length ∧ ii = .int .i64 k ∧ ss = .int .i64 s ∧ Hid (s = sumA (l.take k)) ∧ Hid (Below w7.heap.size w7 wr)) (fun _ ii _ => l.length - (intOf ii).toNat)
    case atStart => exact ⟨0, 0, Nat.zero_le _, rfl, rfl, Lib.hid (by simp [sumA]), Lib.hid (Below.refl _ _)⟩
    case round =>
      obtain ⟨k, s, hk, rfl, rfl, HS, HW⟩ := hrel
      by_cases hlt : k < l.length
      · have hd : decide ((k : Int) < l.length) = true := by simp; omega
        have HRw := (HA4.out.pass HW.out).rd
        obtain ⟨ad, u, rfl, hadb, hu, hcell⟩ := HRw.at_ hlt
        obtain ⟨ad1, u1, e1, _, hu1, hcell1⟩ := HRw.at_ hlq0
        obtain ⟨ad2, u2, e2, _, hu2, hcell2⟩ := HRw.at_ (show k - 1 < l.length by omega)
        obtain rfl : ad = ad1 := by injection e1
        obtain rfl : ad = ad2 := by injection e2
        obtain ⟨g1, g2, g3, g4⟩ := HPO.out.at_ k hlt
        obtain ⟨g5, g6⟩ := g3 hlq0
        have g7 := g4 (by omega)
        have ht := sumA_take l k hlt
        have hle1 := sumA_le l (k + 1) HPO.out.all
        have hle0 := sumA_nonneg (l.take k) (by have := HPO.out.all; rw [List.all_eq_true] at this ⊢; exact fun x hx => this x (List.mem_of_mem_take hx))
        rw [HPO.out.sum, ht] at hle1
        rw [← HS.out] at hle1 hle0 ht
        obtain rfl : u = .int .i64 l[k] := by simp [hlt] at hu; rw [← hu]
        obtain rfl : u1 = .int .i64 l[0] := by simp [hlq0] at hu1; rw [← hu1]
        obtain rfl : u2 = .int .i64 l[k - 1] := by simp [show k - 1 < l.length by omega] at hu2; rw [← hu2]
        have ead : ad.add 0 = ad := by cases ad; simp [Addr.add]
        rw [ead] at hcell1
        have HT := Lib.hid ht
        have hxz : k = 0 → l[k] = l[0] := fun h => by subst h; rfl
        clear hu hu1 hu2 ht e1 e2 g3 g4 HRw ead
        generalize l[k] = x at *
        generalize l[0] = z at *
        generalize l[k - 1] = y at *
        have d1 : decide (x < 0) = false := by simp; omega
        have d2 : decide (n < x) = false := by simp; omega
        have d3 : decide (y < x) = false := by simp; omega
        have d4 : decide (1 < z - x) = false := by simp; omega
        have wz : wrap64 (z - x) = z - x := by rw [wrap_i64]; omega
        rcases (show k = 0 ∨ 0 < k by omega) with h0 | h0
        · obtain rfl : z = x := (hxz h0).symm
          subst h0
          clear hxz
          go_wp2_with (fail)
          go_quiet (fail)
          go_wp2_with (fail)
          go_roundw
          case rel => exact ⟨1, _, by omega, by go_num, rfl, Lib.hid HT.out.symm, Lib.hid (Keeps.below ((Keeps.of_below HW.out).drewN _))⟩
          case measure => simp [intOf]; omega
        · clear hxz
          obtain ⟨j, hj⟩ : ∃ j, k - 1 = j := ⟨_, rfl⟩
          rw [hj] at hcell2
          have hkb : (k : Int) ≤ 1000 := by have h8 := HLQ.out; have h9 := HH3.out; omega
          have hk1 : (k : Int) - 1 = (j : Int) := by omega
          have hw1 : wrap64 ((k : Int) - 1) = (j : Int) := by rw [wrap_i64]; omega
          have hjl : (j : Int) < l.length := by omega
          have hjl2 : j < l.length := by omega
          have hk0 : (0 : Int) < k := by omega
          have HJ := Lib.hid hj
          clear hj
          go_wp2_with (fail)
          go_quiet (fail)
          go_wp2_with (fail)
          go_roundw
          case rel => exact ⟨k + 1, s + x, by omega, by go_num, rfl, Lib.hid HT.out.symm, Lib.hid (Keeps.below ((Keeps.of_below HW.out).drewN _))⟩
          case measure => simp [intOf]; omega
      · have hd : decide ((k : Int) < l.length) = false := by simp; omega
        have hk9 : k = l.length := by omega
        have hs := HS.out
        rw [hk9, List.take_length, HPO.out.sum] at hs
        subst hs
        clear hk9 HS
        go_wp2
        go_ret
        exact ⟨rfl, below_then HB.out HW.out⟩
end Go.Proofs.Ytefcofkodhichaa
