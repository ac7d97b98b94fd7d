/- Contracts of the document's product: a number of digits. -/
import Derived.Test.YtdemonageoagiaaProdB
set_option linter.unusedSimpArgs false
set_option linter.unusedVariables false
namespace Go.Proofs.Ytdemonageoagiaa
open Go.RowKit Mo
theorem i64_in (q : Nat) (h : q < 9223372036854775808) : IntKind.i64.wrap (q : Int) = q := by
  simp only [IntKind.wrap, IntKind.signed, IntKind.bits]
  simp
  omega
theorem val_drop (l : List Nat) (k : Nat) (h : k < l.length) : val (l.drop k) = l[k] + 2 * val (l.drop (k + 1)) := by
  rw [List.drop_eq_getElem_cons h]; rfl
theorem val_split (l : List Nat) (k : Nat) (h : k ≤ l.length) : val l = val (l.take k) + 2 ^ k * val (l.drop k) := by
  have := val_append (l.take k) (l.drop k)
  rw [List.take_append_drop, List.length_take, Nat.min_eq_left h] at this
  exact this
theorem number_big (l : List Nat) (k : Nat) (h : k + 1 ≤ l.length) (hb : 9223372036854775808 ≤ val (l.drop (k + 1))) (neg : Bool) : pfit neg (val l) = false ∧ outV neg (val l) = 0 := by
  have h1 := val_split l (k + 1) h
  have h2 : 2 ≤ 2 ^ (k + 1) := by
    have : 2 ^ 1 ≤ 2 ^ (k + 1) := Nat.pow_le_pow_right (by decide) (by omega)
    simpa using this
  have h3 : 2 * 9223372036854775808 ≤ 2 ^ (k + 1) * val (l.drop (k + 1)) := Nat.mul_le_mul h2 hb
  have h4 : pfit neg (val l) = false := pfit_big (by omega)
  exact ⟨h4, by unfold outV; rw [h4]; rfl⟩
set_option maxRecDepth 100000 in
set_option maxHeartbeats 2000000 in
theorem number_any (w : World) (A : Option Addr) (c : Nat) (l : List Nat) (neg : Bool) (hl : Dg w A c l) (bl : Mo.bits l) (ln : l.length ≤ 5000) :
    Calls Try.prog 34 #[.slice A l.length c, .bool neg] w fun e w' => e = .returned (.tuple #[.int .i64 (outV neg (val l)), .bool (pfit neg (val l))]) ∧ w = w' := by
  have HL := Lib.hid hl; have BL := Lib.hid bl
  clear hl bl
  obtain ⟨n, hn⟩ : ∃ n, l.length = n := ⟨_, rfl⟩
  have HN := Lib.hid hn
  rw [hn] at ln ⊢
  clear hn
  go_enter Try.func34, Try.ntmps34
  go_wp2_with fail
  go_loop [6, 7] (fun o i => ∃ (k q : Nat) (z : Int), k ≤ n ∧ i = .int .i64 z ∧ z = (k : Int) - 1 ∧ o = .int .u64 (q : Nat) ∧ q < 18446744073709551616 ∧ Hid (val (l.drop k) = q)) (fun _ i => (intOf i + 1).toNat)
  case atStart => exact ⟨n, 0, (n : Int) - 1, Nat.le_refl _, rfl, rfl, rfl, by decide, Lib.hid (by rw [← HN.out, List.drop_length]; rfl)⟩
  case round =>
    obtain ⟨k, q, z, hk, rfl, hz, rfl, hq, HQ⟩ := hrel
    rcases (show k = 0 ∨ 0 < k by omega) with h0 | h0
    · obtain rfl : z = -1 := by omega
      subst h0
      have hv : val l = q := by have := HQ.out; simpa using this
      have HV := Lib.hid hv
      clear hv hz
      rcases (show q < 9223372036854775808 ∨ q = 9223372036854775808 ∨ 9223372036854775808 < q by omega) with h1 | h1 | h1
      · have p1 : pfit neg q = true := by unfold pfit; cases neg <;> simp <;> omega
        have p2 : outV neg q = if neg then -(q : Int) else q := by unfold outV; rw [p1, if_pos rfl]
        have P1 := Lib.hid p1; have P2 := Lib.hid p2
        have d1 : ((q : Int) == 9223372036854775808) = false := beq_eq_false_iff_ne.2 (by omega)
        have d2 : (q == 9223372036854775808) = false := beq_eq_false_iff_ne.2 (by omega)
        have d3 : decide ((9223372036854775808 : Int) ≤ q) = false := by simp; omega
        have d4 : ¬ ((9223372036854775808 : Int) ≤ q) := by omega
        have w1 : IntKind.i64.wrap (q : Int) = q := i64_in q h1
        clear p1 p2
        cases neg
        all_goals
          go_wp2
          go_ret2
          rw [HV.out, P1.out, P2.out]
          exact ⟨rfl, rfl⟩
      · subst h1
        clear hq
        cases neg
        · have p1 : pfit false 9223372036854775808 = false := by decide
          have p2 : outV false 9223372036854775808 = 0 := by decide
          go_wp2
          go_ret2
          rw [HV.out, p1, p2]
          exact ⟨rfl, rfl⟩
        · have p1 : pfit true 9223372036854775808 = true := by decide
          have p2 : outV true 9223372036854775808 = -9223372036854775808 := by decide
          go_wp2
          go_ret2
          rw [HV.out, p1, p2]
          exact ⟨rfl, rfl⟩
      · have p1 : pfit neg q = false := pfit_big h1
        have p2 : outV neg q = 0 := by unfold outV; rw [p1]; rfl
        have P1 := Lib.hid p1; have P2 := Lib.hid p2
        have d1 : ((q : Int) == 9223372036854775808) = false := beq_eq_false_iff_ne.2 (by omega)
        have d2 : (q == 9223372036854775808) = false := beq_eq_false_iff_ne.2 (by omega)
        have d3 : decide ((9223372036854775808 : Int) ≤ q) = true := by simp; omega
        have d4 : (9223372036854775808 : Int) ≤ q := by omega
        clear p1 p2
        cases neg
        all_goals
          go_wp2
          go_ret2
          rw [HV.out, P1.out, P2.out]
          exact ⟨rfl, rfl⟩
    · obtain ⟨j, rfl⟩ : ∃ j, k = j + 1 := ⟨k - 1, by omega⟩
      obtain rfl : z = (j : Int) := by omega
      clear hz h0
      have hj : j < l.length := by have := HN.out; omega
      have hjn : (j : Int) < n := by omega
      rcases (show 9223372036854775808 ≤ q ∨ q < 9223372036854775808 by omega) with h1 | h1
      · have hbig := number_big l j (by omega) (by rw [HQ.out]; exact h1) neg
        have HBG := Lib.hid hbig
        have d3 : decide ((9223372036854775808 : Int) ≤ q) = true := by simp; omega
        clear hbig
        go_wp2
        go_ret2
        rw [HBG.out.1, HBG.out.2]
        exact ⟨rfl, rfl⟩
      · have d3 : decide ((9223372036854775808 : Int) ≤ q) = false := by simp; omega
        have d4 : ¬ ((9223372036854775808 : Int) ≤ q) := by omega
        obtain ⟨ad, u, rfl, hadb, hu, hcell⟩ := HL.out.rd.at_ hj
        have hxb := bits_get BL.out hj
        obtain ⟨x, hx⟩ : ∃ x, l[j] = x := ⟨_, rfl⟩
        obtain rfl : u = .int .u8 (x : Nat) := by
          simp [hj, u8v] at hu
          rw [← hu, hx]
        have HX := Lib.hid (show val (l.drop j) = x + 2 * q by rw [val_drop l j hj, hx, HQ.out])
        rw [hx] at hxb
        clear hx hu
        have w1 : IntKind.u64.wrap (2 * (q : Int)) = 2 * (q : Int) := by rw [wrap_u64]; omega
        have w2 : IntKind.u64.wrap (2 * (q : Int) + x) = ((x + 2 * q : Nat) : Int) := by rw [wrap_u64]; omega
        clear h1
        go_wp2
        go_round
        case rel => exact ⟨j, x + 2 * q, (j : Int) - 1, by omega, rfl, rfl, congrArg (Value.int .u64) (by omega), by omega, HX⟩
        case measure => simp [intOf]
end Go.Proofs.Ytdemonageoagiaa
