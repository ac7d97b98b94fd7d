/- Joined: Float, FloatB, FloatC, FloatD, FloatE, FloatG. -/
import Derived.Laws.FloatArith
import Derived.Laws.BitsAllLaws
import Derived.Laws.Bits128
import Derived.Lib.ItoaNum
/- Plain facts on floats by their bits (order, rounding of what is exact), the exact product of a number and a float, and numbers as digits to the base two. No program in sight. -/
set_option linter.unusedSimpArgs false
set_option linter.unusedVariables false
namespace Mo
def isNeg (b : Nat) : Bool := decide (9223372036854775808 ≤ b)
def rung (b : Nat) : Nat := b % 9223372036854775808
def ikey (b : Nat) : Int := if isNeg b then -(rung b : Int) else (rung b : Int)
def isNaN (b : Nat) : Bool := decide (9218868437227405312 < rung b)

theorem two63 : (2 : Nat) ^ (11 + 52) = 9223372036854775808 := by decide
theorem signWeight_eq : Ieee.double.signWeight = 9223372036854775808 := by decide
theorem binade_eq : Ieee.double.binade = 4503599627370496 := by decide
theorem infRung_eq : Ieee.double.infRung = 9218868437227405312 := by decide
theorem leastPlace_eq : Ieee.double.leastPlace = -1074 := by decide

theorem read_eq (b : Nat) (hb : b < 18446744073709551616) : Ieee.double.read b =
    if rung b < 4503599627370496 then .number (isNeg b) (rung b) (-1074)
    else if rung b < 9218868437227405312 then .number (isNeg b) (4503599627370496 + rung b % 4503599627370496) (-1074 + (rung b / 4503599627370496 - 1 : Nat))
    else if rung b = 9218868437227405312 then .infinity (isNeg b)
    else .nan (isNeg b) (rung b - 9218868437227405312) := by
  have hs : (b / 9223372036854775808 % 2 == 1) = isNeg b := by
    unfold isNeg
    rw [Bool.eq_iff_iff]; simp; omega
  unfold Ieee.Format.read
  simp only [signWeight_eq, binade_eq, infRung_eq, leastPlace_eq, hs]
  rfl

/-- the size of a finite rung, in units of 2^-1074 -/
def mag (r : Nat) : Nat := if r < 4503599627370496 then r else (4503599627370496 + r % 4503599627370496) * 2 ^ (r / 4503599627370496 - 1)

theorem mag_lt {r s : Nat} (h : r < s) : mag r < mag s := by
  unfold mag
  by_cases hs : s < 4503599627370496
  · rw [if_pos hs, if_pos (by omega)]; exact h
  · rw [if_neg hs]
    have hq : 1 ≤ s / 4503599627370496 := by omega
    by_cases hr : r < 4503599627370496
    · rw [if_pos hr]
      have : 1 ≤ 2 ^ (s / 4503599627370496 - 1) := Nat.one_le_two_pow
      have h2 : (4503599627370496 + s % 4503599627370496) * 1 ≤ (4503599627370496 + s % 4503599627370496) * 2 ^ (s / 4503599627370496 - 1) := Nat.mul_le_mul_left _ this
      omega
    · rw [if_neg hr]
      by_cases he : r / 4503599627370496 = s / 4503599627370496
      · rw [he]
        exact Nat.mul_lt_mul_of_pos_right (by omega) (Nat.two_pow_pos _)
      · have hlt : r / 4503599627370496 < s / 4503599627370496 := by omega
        obtain ⟨a, ha⟩ : ∃ a, r / 4503599627370496 - 1 = a := ⟨_, rfl⟩
        obtain ⟨c, hc⟩ : ∃ c, s / 4503599627370496 - 1 = a + 1 + c := ⟨s / 4503599627370496 - 1 - (a + 1), by omega⟩
        rw [ha, hc]
        have h1 : (4503599627370496 + r % 4503599627370496) * 2 ^ a < (2 * 4503599627370496) * 2 ^ a :=
          Nat.mul_lt_mul_of_pos_right (by omega) (Nat.two_pow_pos _)
        have h2 : (2 * 4503599627370496) * 2 ^ a = 4503599627370496 * 2 ^ (a + 1) := by rw [Nat.pow_succ]; omega
        have h3 : 4503599627370496 * 2 ^ (a + 1) ≤ (4503599627370496 + s % 4503599627370496) * 2 ^ (a + 1 + c) :=
          Nat.mul_le_mul (by omega) (Nat.pow_le_pow_right (by decide) (by omega))
        omega

theorem mag_eq_iff {r s : Nat} : mag r = mag s ↔ r = s := by
  constructor
  · intro h
    rcases Nat.lt_trichotomy r s with h1 | h1 | h1
    · have := mag_lt h1; omega
    · exact h1
    · have := mag_lt h1; omega
  · rintro rfl; rfl
theorem mag_lt_iff {r s : Nat} : mag r < mag s ↔ r < s := by
  constructor
  · intro h
    rcases Nat.lt_trichotomy r s with h1 | h1 | h1
    · exact h1
    · subst h1; omega
    · have := mag_lt h1; omega
  · exact mag_lt
theorem mag_zero : mag 0 = 0 := rfl

/-- what a finite word stands for, with the size in units of 2^-1074 -/
theorem signed_scaled (s : Bool) (m a : Nat) (k : Nat) : Ieee.signed s m a * (2 ^ k : Nat) = Ieee.signed s m (a + k) := by
  unfold Ieee.signed
  simp only [Nat.shiftLeft_eq, Nat.pow_add]
  split
  · rw [Int.neg_mul, ← Int.natCast_mul, Nat.mul_assoc]
  · rw [← Int.natCast_mul, Nat.mul_assoc]

theorem compare_congr {a b c d : Int} (h1 : a < b ↔ c < d) (h2 : a = b ↔ c = d) : compare a b = compare c d := by
  simp only [compare, compareOfLessAndEq]
  by_cases h : a < b
  · rw [if_pos h, if_pos (h1.1 h)]
  · rw [if_neg h, if_neg (fun h' => h (h1.2 h'))]
    by_cases h' : a = b
    · rw [if_pos h', if_pos (h2.1 h')]
    · rw [if_neg h', if_neg (fun h'' => h' (h2.2 h''))]

theorem cmp_lt {a b : Int} (h : a < b) : compare a b = .lt := by simp only [compare, compareOfLessAndEq]; rw [if_pos h]
theorem cmp_gt {a b : Int} (h : b < a) : compare a b = .gt := by simp only [compare, compareOfLessAndEq]; rw [if_neg (by omega), if_neg (by omega)]
theorem cmp_eq {a b : Int} (h : a = b) : compare a b = .eq := by simp only [compare, compareOfLessAndEq]; rw [if_neg (by omega), if_pos h]
theorem cmp_lt_iff {a b : Int} : compare a b = .lt ↔ a < b := by
  rcases Int.lt_trichotomy a b with h | h | h
  · simp [cmp_lt h, h]
  · simp [cmp_eq h, h]
  · simp [cmp_gt h]; omega
theorem cmp_gt_iff {a b : Int} : compare a b = .gt ↔ b < a := by
  rcases Int.lt_trichotomy a b with h | h | h
  · simp [cmp_lt h]; omega
  · simp [cmp_eq h, h]
  · simp [cmp_gt h, h]
theorem cmp_eq_iff {a b : Int} : compare a b = .eq ↔ a = b := by
  rcases Int.lt_trichotomy a b with h | h | h
  · simp [cmp_lt h]; omega
  · simp [cmp_eq h, h]
  · simp [cmp_gt h]; omega

theorem compare_mul {a b : Int} (k : Nat) (hk : 0 < k) : compare (a * k) (b * k) = compare a b := by
  refine compare_congr ?_ ?_
  · exact Int.mul_lt_mul_right (by omega)
  · constructor
    · intro h; exact Int.eq_of_mul_eq_mul_right (by omega) h
    · rintro rfl; rfl

def sval (s : Bool) (m : Nat) : Int := if s then -(m : Int) else (m : Int)

/-- numbers stand to each other as their sizes in units of 2^-1074 do -/
theorem order_number (s t : Bool) (m n a c : Nat) :
    Ieee.Datum.order (.number s m (-1074 + a)) (.number t n (-1074 + c)) = some (compare (sval s (m * 2 ^ a)) (sval t (n * 2 ^ c))) := by
  simp only [Ieee.Datum.order]
  have e1 : ((-1074 + (a : Int)) - min (-1074 + (a : Int)) (-1074 + (c : Int))).toNat = a - min a c := by omega
  have e2 : ((-1074 + (c : Int)) - min (-1074 + (a : Int)) (-1074 + (c : Int))).toNat = c - min a c := by omega
  rw [e1, e2, ← compare_mul (2 ^ min a c) (Nat.two_pow_pos _), signed_scaled, signed_scaled]
  have e3 : a - min a c + min a c = a := by omega
  have e4 : c - min a c + min a c = c := by omega
  rw [e3, e4]
  simp only [Ieee.signed, sval, Nat.shiftLeft_eq]

theorem read_finite (b : Nat) (hb : b < 18446744073709551616) (h : rung b < 9218868437227405312) :
    ∃ m a : Nat, Ieee.double.read b = .number (isNeg b) m (-1074 + (a : Int)) ∧ m * 2 ^ a = mag (rung b) := by
  rw [read_eq b hb]
  unfold mag
  by_cases h1 : rung b < 4503599627370496
  · rw [if_pos h1, if_pos h1]; exact ⟨rung b, 0, by simp, by simp⟩
  · rw [if_neg h1, if_pos h, if_neg h1]; exact ⟨_, _, rfl, rfl⟩

theorem ikey_cmp_fin (x y : Nat) : compare (sval (isNeg x) (mag (rung x))) (sval (isNeg y) (mag (rung y))) = compare (ikey x) (ikey y) := by
  have l := @mag_lt_iff (rung x) (rung y)
  have l' := @mag_lt_iff (rung y) (rung x)
  have e := @mag_eq_iff (rung x) (rung y)
  have z := @mag_eq_iff (rung x) 0
  have z' := @mag_eq_iff (rung y) 0
  rw [mag_zero] at z z'
  unfold sval ikey
  refine compare_congr ?_ ?_ <;> cases isNeg x <;> cases isNeg y <;> simp <;> omega

theorem order_eq (x y : Nat) (hx : x < 18446744073709551616) (hy : y < 18446744073709551616) (nx : isNaN x = false) (ny : isNaN y = false) :
    Ieee.double.order x y = some (compare (ikey x) (ikey y)) := by
  simp only [isNaN, decide_eq_false_iff_not] at nx ny
  unfold Ieee.Format.order
  by_cases h1 : rung x < 9218868437227405312
  · obtain ⟨m, a, hr, hm⟩ := read_finite x hx h1
    by_cases h2 : rung y < 9218868437227405312
    · obtain ⟨n, c, hr2, hn⟩ := read_finite y hy h2
      rw [hr, hr2, order_number, hm, hn, ikey_cmp_fin]
    · have e : rung y = 9218868437227405312 := by omega
      rw [hr, read_eq y hy, if_neg (by omega), if_neg (by omega), if_pos e]
      simp only [Ieee.Datum.order, ikey]
      cases isNeg y
      · simp only [Bool.false_eq_true, if_false]; rw [cmp_lt]; split <;> omega
      · simp only [if_true]; rw [cmp_gt]; split <;> omega
  · have e : rung x = 9218868437227405312 := by omega
    rw [read_eq x hx, if_neg (by omega), if_neg (by omega), if_pos e]
    by_cases h2 : rung y < 9218868437227405312
    · obtain ⟨n, c, hr2, hn⟩ := read_finite y hy h2
      rw [hr2]
      simp only [Ieee.Datum.order, ikey]
      cases isNeg x
      · simp only [Bool.false_eq_true, if_false]; rw [cmp_gt]; split <;> omega
      · simp only [if_true]; rw [cmp_lt]; split <;> omega
    · have e' : rung y = 9218868437227405312 := by omega
      rw [read_eq y hy, if_neg (by omega), if_neg (by omega), if_pos e']
      simp only [Ieee.Datum.order, ikey]
      cases isNeg y <;> cases isNeg x <;> simp [compare, compareOfLessAndEq, e, e', Bool.toNat]

theorem order_nan_left (x y : Nat) (hx : x < 18446744073709551616) (nx : isNaN x = true) : Ieee.double.order x y = none := by
  simp only [isNaN, decide_eq_true_eq] at nx
  unfold Ieee.Format.order
  rw [read_eq x hx, if_neg (by omega), if_neg (by omega), if_neg (by omega)]
  cases Ieee.double.read y <;> rfl
theorem order_nan_right (x y : Nat) (hy : y < 18446744073709551616) (ny : isNaN y = true) : Ieee.double.order x y = none := by
  simp only [isNaN, decide_eq_true_eq] at ny
  unfold Ieee.Format.order
  rw [read_eq y hy, if_neg (by omega), if_neg (by omega), if_neg (by omega)]
  cases Ieee.double.read x <;> rfl

theorem log2_of {n k : Nat} (h1 : 2 ^ k ≤ n) (h2 : n < 2 ^ (k + 1)) : n.log2 = k :=
  (Nat.log2_eq_iff (by have := Nat.two_pow_pos k; omega)).2 ⟨h1, h2⟩

theorem cut_exact (neg : Bool) (m d : Nat) (hd : d ≤ (m * 2 ^ d).log2 + 2) : Ieee.Toward.even.cut neg (m * 2 ^ d) d = m := by
  unfold Ieee.Toward.cut
  have hp : 0 < 2 ^ d := Nat.two_pow_pos _
  simp only [Nat.min_eq_left hd, Nat.shiftLeft_eq, Nat.one_mul, Nat.mul_mod_left, Nat.mul_div_cancel _ hp]
  have h1 : ¬ (2 ^ d < 2 * 0) := by omega
  have h2 : (2 ^ d == 2 * 0) = false := by rw [beq_eq_false_iff_ne]; omega
  simp [h2]

theorem nearest_normal (neg : Bool) (M k : Nat) (p : Int) (h1 : 4503599627370496 ≤ M) (h2 : M < 9007199254740992) (hp : -1074 ≤ p) (hp2 : p ≤ 971) :
    Ieee.double.nearest neg (M * 2 ^ k) (p - k) = Ieee.double.word neg ((p + 1074).toNat * 4503599627370496 + M) := by
  have hk : 0 < 2 ^ k := Nat.two_pow_pos _
  have hl : (M * 2 ^ k).log2 = 52 + k := by
    refine log2_of ?_ ?_
    · rw [Nat.pow_add]; exact Nat.mul_le_mul_right _ (by omega)
    · rw [show 52 + k + 1 = 53 + k from by omega, Nat.pow_add]
      exact Nat.mul_lt_mul_of_pos_right (by omega) hk
  have hne : M * 2 ^ k ≠ 0 := by
    have : 0 < M * 2 ^ k := Nat.mul_pos (by omega) hk
    omega
  unfold Ieee.Format.nearest
  rw [if_neg hne]
  have f52 : Ieee.double.fractionBits = 52 := rfl
  have lp : Ieee.double.leastPlace = -1074 := by decide
  have bi : Ieee.double.binade = 4503599627370496 := by decide
  have ir : Ieee.double.infRung = 9218868437227405312 := by decide
  simp only [hl, f52, lp, bi, ir]
  have e1 : max (p - (k : Int) + ((52 + k : Nat) : Int) - ((52 : Nat) : Int)) (-1074) = p := by omega
  have e2 : (p - (k : Int) - p).toNat = 0 := by omega
  have e3 : (p - (p - (k : Int))).toNat = k := by omega
  rw [e1, e2, e3, Nat.shiftLeft_eq, Nat.pow_zero, Nat.mul_one, cut_exact _ _ _ (by rw [hl]; omega)]
  have e4 : (p - -1074).toNat = (p + 1074).toNat := by omega
  rw [e4, Nat.min_eq_left (by omega)]

theorem nearest_sub (neg : Bool) (M k : Nat) (h2 : M < 4503599627370496) :
    Ieee.double.nearest neg (M * 2 ^ k) (-1074 - k) = Ieee.double.word neg M := by
  have hk : 0 < 2 ^ k := Nat.two_pow_pos _
  by_cases hM : M = 0
  · subst hM; simp [Ieee.Format.nearest]
  have hlM : M.log2 ≤ 51 := by
    have := (Nat.log2_lt hM (k := 52)).2 (by omega)
    omega
  have hl : (M * 2 ^ k).log2 = M.log2 + k := by
    refine log2_of ?_ ?_
    · rw [Nat.pow_add]; exact Nat.mul_le_mul_right _ (Nat.log2_self_le hM)
    · rw [show M.log2 + k + 1 = M.log2 + 1 + k from by omega, Nat.pow_add]
      exact Nat.mul_lt_mul_of_pos_right Nat.lt_log2_self hk
  have hne : M * 2 ^ k ≠ 0 := by
    have : 0 < M * 2 ^ k := Nat.mul_pos (by omega) hk
    omega
  unfold Ieee.Format.nearest
  rw [if_neg hne]
  have f52 : Ieee.double.fractionBits = 52 := rfl
  have lp : Ieee.double.leastPlace = -1074 := by decide
  have bi : Ieee.double.binade = 4503599627370496 := by decide
  have ir : Ieee.double.infRung = 9218868437227405312 := by decide
  simp only [hl, f52, lp, bi, ir]
  have e1 : max (-1074 - (k : Int) + ((M.log2 + k : Nat) : Int) - ((52 : Nat) : Int)) (-1074) = -1074 := by omega
  have e2 : (-1074 - (k : Int) - -1074).toNat = 0 := by omega
  have e3 : (-1074 - (-1074 - (k : Int))).toNat = k := by omega
  rw [e1, e2, e3, Nat.shiftLeft_eq, Nat.pow_zero, Nat.mul_one, cut_exact _ _ _ (by rw [hl]; omega)]
  have e4 : ((-1074 : Int) - -1074).toNat = 0 := by omega
  rw [e4, Nat.min_eq_left (by omega)]
  simp

/-- a subnormal number's size, brought between 2^52 and 2^53 -/
theorem nearest_up (neg : Bool) (r : Nat) (h0 : 0 < r) (h2 : r < 4503599627370496) :
    Ieee.double.nearest neg (r * 4503599627370496) (-1074) = Ieee.double.word neg (r.log2 * 4503599627370496 + r * 2 ^ (52 - r.log2)) := by
  have hlr : r.log2 ≤ 51 := by
    have := (Nat.log2_lt (Nat.ne_of_gt h0) (k := 52)).2 (by omega)
    omega
  have ha := Nat.log2_self_le (Nat.ne_of_gt h0)
  have hb := @Nat.lt_log2_self r
  have e52 : (4503599627370496 : Nat) = 2 ^ (52 - r.log2) * 2 ^ r.log2 := by rw [← Nat.pow_add, show 52 - r.log2 + r.log2 = 52 from by omega]
  have h1 : 4503599627370496 ≤ r * 2 ^ (52 - r.log2) := by
    rw [e52, Nat.mul_comm]; exact Nat.mul_le_mul_right _ ha
  have h3 : r * 2 ^ (52 - r.log2) < 9007199254740992 := by
    have : r * 2 ^ (52 - r.log2) < 2 ^ (r.log2 + 1) * 2 ^ (52 - r.log2) := Nat.mul_lt_mul_of_pos_right hb (Nat.two_pow_pos _)
    rw [← Nat.pow_add, show r.log2 + 1 + (52 - r.log2) = 53 from by omega] at this
    exact this
  have key := nearest_normal neg (r * 2 ^ (52 - r.log2)) r.log2 (-1074 + r.log2) h1 h3 (by omega) (by omega)
  rw [Nat.mul_assoc, ← e52] at key
  rw [show (-1074 : Int) + (r.log2 : Int) - (r.log2 : Int) = -1074 from by omega] at key
  rw [show (-1074 : Int) + (r.log2 : Int) + 1074 = (r.log2 : Int) from by omega, Int.toNat_natCast] at key
  exact key

theorem word_eq (neg : Bool) (r : Nat) : Ieee.double.word neg r = (if neg then 9223372036854775808 + r else r) := by
  have : Ieee.double.signWeight = 9223372036854775808 := by decide
  unfold Ieee.Format.word; rw [this]


def part (b : Nat) : Nat := if rung b < 4503599627370496 then rung b else 4503599627370496 + rung b % 4503599627370496
def expf (b : Nat) : Nat := if rung b < 4503599627370496 then 1 else rung b / 4503599627370496
def pneg (n : Int) (b : Nat) : Bool := decide (n < 0) != isNeg b
/-- 'N * 2 ^ (x - 1075)', downwards, and whether something is lost -/
def sq (N x : Nat) : Nat := if 1075 ≤ x then N * 2 ^ (x - 1075) else N / 2 ^ (1075 - x)
def sl (N x : Nat) : Bool := decide (x < 1075) && decide (N % 2 ^ (1075 - x) ≠ 0)
def pabs (n : Int) (b : Nat) (up : Bool) : Nat := sq (n.natAbs * part b) (expf b) + if (sl (n.natAbs * part b) (expf b) && (pneg n b != up)) = true then 1 else 0
def pfit (neg : Bool) (q : Nat) : Bool := if neg then decide (q ≤ 9223372036854775808) else decide (q < 9223372036854775808)
def prodE (n : Int) (b : Nat) (up : Bool) : Int :=
  if 9218868437227405312 < rung b then 10 else if rung b = 9218868437227405312 then (if n = 0 then 10 else 11)
  else if pfit (pneg n b) (pabs n b up) = true then 0 else 11
def prodV (n : Int) (b : Nat) (up : Bool) : Int :=
  if prodE n b up = 0 then (if pneg n b then -(pabs n b up : Int) else (pabs n b up : Int)) else 0



/-- digits to the base two, the lowest first -/
def val : List Nat → Nat
  | [] => 0
  | d :: r => d + 2 * val r
def bits (l : List Nat) : Prop := ∀ x ∈ l, x ≤ 1
def dig (n : Nat) : List Nat := if h : n = 0 then [] else n % 2 :: dig (n / 2)
termination_by n
decreasing_by omega
theorem dig_zero : dig 0 = [] := by unfold dig; simp
theorem dig_pos {n : Nat} (h : 0 < n) : dig n = n % 2 :: dig (n / 2) := by
  rw [dig]; rw [dif_neg (by omega)]
theorem val_dig (n : Nat) : val (dig n) = n := by
  induction n using Nat.strongRecOn with
  | _ n ih =>
    rcases Nat.eq_zero_or_pos n with h | h
    · subst h; rw [dig_zero]; rfl
    · rw [dig_pos h]; simp only [val]; rw [ih (n / 2) (by omega)]; omega
theorem bits_dig (n : Nat) : bits (dig n) := by
  induction n using Nat.strongRecOn with
  | _ n ih =>
    rcases Nat.eq_zero_or_pos n with h | h
    · subst h; rw [dig_zero]; intro x hx; cases hx
    · rw [dig_pos h]
      intro x hx
      rcases List.mem_cons.1 hx with e | e
      · subst e; omega
      · exact ih (n / 2) (by omega) x e
theorem length_dig (n k : Nat) (h : n < 2 ^ k) : (dig n).length ≤ k := by
  induction k generalizing n with
  | zero => have : n = 0 := by simp at h; omega
            subst this; rw [dig_zero]; simp
  | succ k ih =>
    rcases Nat.eq_zero_or_pos n with h0 | h0
    · subst h0; rw [dig_zero]; simp
    · rw [dig_pos h0]
      have := ih (n / 2) (by rw [Nat.pow_succ] at h; omega)
      simp; omega
theorem val_append (a b : List Nat) : val (a ++ b) = val a + 2 ^ a.length * val b := by
  induction a with
  | nil => simp [val]
  | cons x a ih =>
    simp only [List.cons_append, val, ih, List.length_cons, Nat.pow_succ, Nat.mul_add]
    rw [show 2 ^ a.length * 2 * val b = 2 * (2 ^ a.length * val b) from by rw [Nat.mul_comm (2 ^ a.length) 2, Nat.mul_assoc]]
    omega
theorem val_lt {l : List Nat} (h : bits l) : val l < 2 ^ l.length := by
  induction l with
  | nil => simp [val]
  | cons x l ih =>
    have h1 := ih (fun y hy => h y (List.mem_cons_of_mem _ hy))
    have h2 := h x (List.mem_cons_self ..)
    simp only [val, List.length_cons, Nat.pow_succ]
    omega
theorem val_set (l : List Nat) (j v : Nat) (h : j < l.length) : val (l.set j v) + l[j] * 2 ^ j = val l + v * 2 ^ j := by
  induction l generalizing j with
  | nil => simp at h
  | cons x l ih =>
    cases j with
    | zero => simp only [List.set_cons_zero, val, List.getElem_cons_zero, Nat.pow_zero, Nat.mul_one]; omega
    | succ j =>
      have := ih j (by simpa using h)
      simp only [List.set_cons_succ, val, List.getElem_cons_succ, Nat.pow_succ]
      have e1 : l[j]'(by simpa using h) * (2 ^ j * 2) = 2 * (l[j]'(by simpa using h) * 2 ^ j) := by rw [← Nat.mul_assoc, Nat.mul_comm]
      have e2 : v * (2 ^ j * 2) = 2 * (v * 2 ^ j) := by rw [← Nat.mul_assoc, Nat.mul_comm]
      rw [e1, e2]
      omega
theorem bits_set {l : List Nat} (h : bits l) (j v : Nat) (hv : v ≤ 1) : bits (l.set j v) := by
  intro x hx
  rcases List.mem_or_eq_of_mem_set hx with h1 | h1
  · exact h x h1
  · omega
theorem val_replicate (n : Nat) : val (List.replicate n 0) = 0 := by
  induction n with
  | zero => rfl
  | succ n ih => simp [List.replicate_succ, val, ih]
theorem bits_replicate (n : Nat) : bits (List.replicate n 0) := by
  intro x hx
  have := List.eq_of_mem_replicate hx
  omega
theorem bits_get {l : List Nat} (h : bits l) {j : Nat} (hj : j < l.length) : l[j] ≤ 1 := h _ (List.getElem_mem hj)

/-- one step of adding: what stands at place j, what is carried, and a digit -/
theorem add_step (out : List Nat) (j c b : Nat) (hj : j < out.length) :
    val (out.set j ((out[j] + c + b) % 2)) + (out[j] + c + b) / 2 * 2 ^ (j + 1) = val out + (c + b) * 2 ^ j := by
  have h := val_set out j ((out[j] + c + b) % 2) hj
  have e : (out[j] + c + b) % 2 * 2 ^ j + (out[j] + c + b) / 2 * 2 ^ (j + 1) = (out[j] + c + b) * 2 ^ j := by
    rw [Nat.pow_succ, Nat.mul_comm (2 ^ j) 2, ← Nat.mul_assoc, ← Nat.add_mul]
    congr 1; omega
  rw [Nat.add_mul, Nat.add_mul] at e
  rw [Nat.add_mul]
  omega

theorem val_take_succ (l : List Nat) (k : Nat) (h : k < l.length) : val (l.take (k + 1)) = val (l.take k) + l[k] * 2 ^ k := by
  rw [List.take_succ_eq_append_getElem h, val_append]
  simp only [val, List.length_take, Nat.min_eq_left (Nat.le_of_lt h)]
  rw [Nat.mul_comm]; simp
end Mo

/- Floats held against each other, as whole numbers; their classes. -/
set_option linter.unusedSimpArgs false
set_option linter.unusedVariables false
open Go
namespace Mo
theorem f_none {x y : Nat} (hx : x < 18446744073709551616) (hy : y < 18446744073709551616) (h : isNaN x = true ∨ isNaN y = true) : FloatKind.f64.format.order x y = none := by
  rcases h with h | h
  · exact order_nan_left x y hx h
  · exact order_nan_right x y hy h
theorem f_some {x y : Nat} (hx : x < 18446744073709551616) (hy : y < 18446744073709551616) (h : isNaN x = false) (h2 : isNaN y = false) : FloatKind.f64.format.order x y = some (compare (ikey x) (ikey y)) := order_eq x y hx hy h h2
theorem f_gt {x y : Nat} (hx : x < 18446744073709551616) (hy : y < 18446744073709551616) : (FloatKind.f64.format.order x y == some Ordering.gt) = (!isNaN x && !isNaN y && decide (ikey y < ikey x)) := by
  cases h : isNaN x
  · cases h2 : isNaN y
    · rw [f_some hx hy h h2, Bool.eq_iff_iff]; simp [cmp_gt_iff]
    · rw [f_none hx hy (.inr h2)]; rfl
  · rw [f_none hx hy (.inl h)]; rfl
theorem f_lt {x y : Nat} (hx : x < 18446744073709551616) (hy : y < 18446744073709551616) : (FloatKind.f64.format.order x y == some Ordering.lt) = (!isNaN x && !isNaN y && decide (ikey x < ikey y)) := by
  cases h : isNaN x
  · cases h2 : isNaN y
    · rw [f_some hx hy h h2, Bool.eq_iff_iff]; simp [cmp_lt_iff]
    · rw [f_none hx hy (.inr h2)]; rfl
  · rw [f_none hx hy (.inl h)]; rfl
theorem f_eq {x y : Nat} (hx : x < 18446744073709551616) (hy : y < 18446744073709551616) : (FloatKind.f64.format.order x y == some Ordering.eq) = (!isNaN x && !isNaN y && decide (ikey x = ikey y)) := by
  cases h : isNaN x
  · cases h2 : isNaN y
    · rw [f_some hx hy h h2, Bool.eq_iff_iff]; simp [cmp_eq_iff]
    · rw [f_none hx hy (.inr h2)]; rfl
  · rw [f_none hx hy (.inl h)]; rfl
theorem f_ne_self {x : Nat} (hx : x < 18446744073709551616) : (FloatKind.f64.format.order x x != some Ordering.eq) = isNaN x := by
  have h := f_eq hx hx
  rw [bne, h]
  cases isNaN x <;> simp
theorem f_le {x y : Nat} (hx : x < 18446744073709551616) (hy : y < 18446744073709551616) : (FloatKind.f64.format.order x y == some Ordering.lt || FloatKind.f64.format.order x y == some Ordering.eq) = (!isNaN x && !isNaN y && decide (ikey x ≤ ikey y)) := by
  rw [f_lt hx hy, f_eq hx hy, Bool.eq_iff_iff]
  cases isNaN x <;> cases isNaN y <;> simp <;> omega
theorem f_ge {x y : Nat} (hx : x < 18446744073709551616) (hy : y < 18446744073709551616) : (FloatKind.f64.format.order x y == some Ordering.gt || FloatKind.f64.format.order x y == some Ordering.eq) = (!isNaN x && !isNaN y && decide (ikey y ≤ ikey x)) := by
  rw [f_gt hx hy, f_eq hx hy, Bool.eq_iff_iff]
  cases isNaN x <;> cases isNaN y <;> simp <;> omega

/-- the sign turned -/
def fneg (b : Nat) : Nat := if 9223372036854775808 ≤ b then b - 9223372036854775808 else b + 9223372036854775808
theorem xor_sign (b : Nat) (hb : b < 18446744073709551616) : b ^^^ 9223372036854775808 = fneg b := by
  have h1 : (b ^^^ 2 ^ 63) % 2 ^ 63 = b % 2 ^ 63 := by rw [Nat.xor_mod_two_pow]; simp
  have h2 : (b ^^^ 2 ^ 63) / 2 ^ 63 = (b / 2 ^ 63) ^^^ 1 := by rw [Nat.xor_div_two_pow]
  have e : (2 : Nat) ^ 63 = 9223372036854775808 := by decide
  rw [e] at h1 h2
  have h3 : b / 9223372036854775808 = 0 ∨ b / 9223372036854775808 = 1 := by omega
  unfold fneg
  rcases h3 with h | h
  · rw [h] at h2
    simp at h2
    rw [if_neg (by omega)]; omega
  · rw [h] at h2
    simp at h2
    rw [if_pos (by omega)]; omega
theorem fneg_lt {b : Nat} (hb : b < 18446744073709551616) : fneg b < 18446744073709551616 := by unfold fneg; split <;> omega
theorem rung_fneg {b : Nat} (hb : b < 18446744073709551616) : rung (fneg b) = rung b := by unfold fneg rung; split <;> omega
theorem isNeg_fneg {b : Nat} (hb : b < 18446744073709551616) : isNeg (fneg b) = !isNeg b := by
  unfold fneg isNeg
  by_cases h : 9223372036854775808 ≤ b
  · rw [if_pos h, decide_eq_true h]; simp; omega
  · rw [if_neg h, decide_eq_false h]; simp
theorem isNaN_fneg {b : Nat} (hb : b < 18446744073709551616) : isNaN (fneg b) = isNaN b := by unfold isNaN; rw [rung_fneg hb]
theorem ikey_fneg {b : Nat} (hb : b < 18446744073709551616) : ikey (fneg b) = -ikey b := by
  unfold ikey; rw [rung_fneg hb, isNeg_fneg hb]; cases isNeg b <;> simp
theorem word_of (b : Nat) (hb : b < 18446744073709551616) : b = (if isNeg b then 9223372036854775808 else 0) + rung b := by
  unfold isNeg rung
  by_cases h : 9223372036854775808 ≤ b
  · simp [h]; omega
  · simp [h]; omega

/-- what a float is -/
def cls (b : Nat) : Int :=
  if isNaN b then 0 else if rung b = 0 then (if isNeg b then 3 else 4) else if rung b = 9218868437227405312 then (if isNeg b then 1 else 6) else if isNeg b then 2 else 5
end Mo

/- The bits of a float's word, taken out and laid in. -/
set_option linter.unusedSimpArgs false
set_option linter.unusedVariables false
namespace Go.Proofs.YtjhhpcjnhjbpdaaGreat
open Go.RowKit Mo
theorem sign_off (b : Nat) (hb : b < 18446744073709551616) : bits .andNot .u64 (b : Int) 9223372036854775808 = (rung b : Nat) := by
  rw [show (9223372036854775808 : Int) = ((9223372036854775808 : Nat) : Int) from rfl, u64_andNot_nat _ _ hb (by decide)]
  exact congrArg Int.ofNat (Nat.and_two_pow_sub_one_eq_mod b 63)
theorem field_of (b : Nat) (hb : b < 18446744073709551616) : bits .and .u64 (b / 4503599627370496 : Nat) 2047 = (rung b / 4503599627370496 : Nat) := by
  rw [show (2047 : Int) = ((2047 : Nat) : Int) from rfl, u64_and_nat _ _ (by omega) (by decide)]
  refine congrArg Int.ofNat ?_
  rw [show (b / 4503599627370496) &&& 2047 = b / 4503599627370496 % 2 ^ 11 from Nat.and_two_pow_sub_one_eq_mod _ 11]
  unfold rung; omega
theorem join63 (x y : Nat) (h : y < 9223372036854775808) : x * 9223372036854775808 ||| y = x * 9223372036854775808 + y := nat_join 63 (x * 2 ^ 63) y (Nat.mul_mod_left _ _) h
theorem join52 (x y : Nat) (h : y < 4503599627370496) : x * 4503599627370496 ||| y = x * 4503599627370496 + y := nat_join 52 (x * 2 ^ 52) y (Nat.mul_mod_left _ _) h
set_option maxRecDepth 100000 in
/-- the sign and the fraction kept, another exponent laid in -/
theorem field_lay (b c : Nat) (hb : b < 18446744073709551616) (hc : c < 2048) :
    bits .or .u64 (bits .andNot .u64 (b : Int) 9218868437227405312) (c * 4503599627370496 : Nat) = ((if isNeg b then 9223372036854775808 else 0) + c * 4503599627370496 + rung b % 4503599627370496 : Nat) := by
  rw [show (9218868437227405312 : Int) = ((9218868437227405312 : Nat) : Int) from rfl, u64_andNot_nat _ _ hb (by decide)]
  have hm : b % 4503599627370496 < 4503599627370496 := Nat.mod_lt _ (by decide)
  have hm' : b % 4503599627370496 < 9223372036854775808 := by omega
  have e : b &&& (18446744073709551615 - 9218868437227405312) = b / 9223372036854775808 * 9223372036854775808 + b % 4503599627370496 := by
    rw [show (18446744073709551615 - 9218868437227405312 : Nat) = 2 ^ 63 ||| (2 ^ 52 - 1) by decide, Nat.and_or_distrib_left, nat_bit, Nat.and_two_pow_sub_one_eq_mod]
    simp only [Nat.reducePow]
    rw [join63 _ _ hm']
    omega
  have hlt : b / 9223372036854775808 * 9223372036854775808 + b % 4503599627370496 < 18446744073709551616 := by omega
  have hcm : c * 4503599627370496 ≤ 9218868437227405312 := Nat.le_trans (Nat.mul_le_mul_right 4503599627370496 (Nat.le_of_lt_succ hc)) (by decide)
  have hcl : c * 4503599627370496 < 18446744073709551616 := Nat.lt_of_le_of_lt hcm (by decide)
  rw [e, u64_or_nat _ _ hlt hcl]
  refine congrArg Int.ofNat ?_
  have hc' : c * 4503599627370496 + b % 4503599627370496 < 9223372036854775808 := Nat.lt_of_le_of_lt (Nat.add_le_add hcm (Nat.le_of_lt_succ (show _ < 4503599627370495 + 1 from hm))) (by decide)
  rw [← join63 _ _ hm', Nat.or_assoc, Nat.or_comm (b % 4503599627370496), join52 _ _ hm, join63 _ _ hc']
  clear hcm hcl hc' hc
  unfold isNeg rung
  by_cases h : 9223372036854775808 ≤ b
  · rw [if_pos (by simpa using h)]; omega
  · rw [if_neg (by simpa using h)]; omega
theorem read_normal (b : Nat) (hb : b < 18446744073709551616) (h : 4503599627370496 ≤ rung b) (h2 : rung b < 9218868437227405312) :
    FloatKind.f64.format.read b = .number (isNeg b) (4503599627370496 + rung b % 4503599627370496) (-1074 + (rung b / 4503599627370496 - 1 : Nat)) := by
  refine (read_eq b hb).trans ?_
  rw [if_neg (by omega), if_pos h2]
theorem word_back (b : Nat) (hb : b < 18446744073709551616) : Ieee.double.word (isNeg b) (rung b) = b := by
  rw [word_eq]; unfold isNeg rung
  by_cases h : 9223372036854775808 ≤ b
  · rw [if_pos (by simpa using h)]; omega
  · rw [if_neg (by simpa using h)]; omega
theorem mul_one_frac (b : Nat) (hb : b < 18446744073709551616) (h : rung b / 4503599627370496 = 1075) : floatBits .mul .f64 4607182418800017408 b = some b := by
  have h1 : 4503599627370496 ≤ rung b := by omega
  have h2 : rung b < 9218868437227405312 := by omega
  show ((FloatKind.f64.format.read 4607182418800017408).product (FloatKind.f64.format.read b)).map FloatKind.f64.format.write = some b
  rw [read_normal b hb h1 h2, h, show FloatKind.f64.format.read 4607182418800017408 = .number false 4503599627370496 (-52) by decide]
  show some (Ieee.double.nearest (false ^^ isNeg b) (4503599627370496 * (4503599627370496 + rung b % 4503599627370496)) (-52 + (-1074 + ((1075 - 1 : Nat) : Int)))) = some b
  refine congrArg some ?_
  have key := nearest_normal (isNeg b) (4503599627370496 + rung b % 4503599627370496) 52 0 (by omega) (by omega) (by decide) (by decide)
  rw [Bool.false_xor, Nat.mul_comm 4503599627370496, show (-52 + (-1074 + ((1075 - 1 : Nat) : Int))) = (0 : Int) - (52 : Nat) by decide]
  refine key.trans ?_
  rw [show (((0 : Int) + 1074).toNat * 4503599627370496 + (4503599627370496 + rung b % 4503599627370496)) = rung b by
    rw [show ((0 : Int) + 1074).toNat = 1074 from rfl]; omega]
  exact word_back b hb
theorem to_i64 (b : Nat) (hb : b < 18446744073709551616) (h : rung b / 4503599627370496 = 1075) :
    floatToIntVal .f64 b .i64 = some (if isNeg b then -((4503599627370496 + rung b % 4503599627370496 : Nat) : Int) else (4503599627370496 + rung b % 4503599627370496 : Nat)) := by
  have h1 : 4503599627370496 ≤ rung b := by omega
  have h2 : rung b < 9218868437227405312 := by omega
  have hc : ∀ m : Nat, Ieee.Toward.zero.cut (isNeg b) m 0 = m := by
    intro m; unfold Ieee.Toward.cut; simp [Nat.mod_one]
  have e : (FloatKind.f64.decode b).toInt .zero = some (if isNeg b then -((4503599627370496 + rung b % 4503599627370496 : Nat) : Int) else (4503599627370496 + rung b % 4503599627370496 : Nat)) := by
    unfold FloatKind.decode
    rw [read_normal b hb h1 h2, h]
    show some (Ieee.signed (isNeg b) (Ieee.Toward.zero.cut (isNeg b) ((4503599627370496 + rung b % 4503599627370496) <<< ((-1074 : Int) + ((1075 - 1 : Nat) : Int)).toNat) (-((-1074 : Int) + ((1075 - 1 : Nat) : Int))).toNat) 0) = _
    rw [show ((-1074 : Int) + ((1075 - 1 : Nat) : Int)).toNat = 0 by decide, show (-((-1074 : Int) + ((1075 - 1 : Nat) : Int))).toNat = 0 by decide]
    simp only [Nat.shiftLeft_zero, hc, Ieee.signed]
  unfold floatToIntVal
  rw [e]
  have hm : rung b % 4503599627370496 < 4503599627370496 := Nat.mod_lt _ (by decide)
  generalize rung b % 4503599627370496 = M at hm ⊢
  have g1 : IntKind.i64.min = -9223372036854775808 := by decide
  have g2 : IntKind.i64.max = 9223372036854775807 := by decide
  simp only [g1, g2]
  rw [if_pos]
  cases isNeg b <;> simp <;> omega
/-- a number that isn't 0 as a normal one, and its places more -/
def nrm (b : Nat) : Nat := if rung b < 4503599627370496 then (if isNeg b then 9223372036854775808 else 0) + ((rung b).log2 * 4503599627370496 + rung b * 2 ^ (52 - (rung b).log2)) else b
def nrx (b : Nat) : Int := if rung b < 4503599627370496 then -52 else 0
theorem sub_bounds (r : Nat) (h0 : 0 < r) (h2 : r < 4503599627370496) : r.log2 ≤ 51 ∧ 4503599627370496 ≤ r * 2 ^ (52 - r.log2) ∧ r * 2 ^ (52 - r.log2) < 9007199254740992 := by
  have hlr : r.log2 ≤ 51 := by
    have := (Nat.log2_lt (Nat.ne_of_gt h0) (k := 52)).2 (by omega)
    omega
  have ha := Nat.log2_self_le (Nat.ne_of_gt h0)
  have hb := @Nat.lt_log2_self r
  have e52 : (4503599627370496 : Nat) = 2 ^ (52 - r.log2) * 2 ^ r.log2 := by rw [← Nat.pow_add, show 52 - r.log2 + r.log2 = 52 from by omega]
  have h1 : 4503599627370496 ≤ r * 2 ^ (52 - r.log2) := by
    rw [e52, Nat.mul_comm]; exact Nat.mul_le_mul_right _ ha
  have h3 : r * 2 ^ (52 - r.log2) < 9007199254740992 := by
    have : r * 2 ^ (52 - r.log2) < 2 ^ (r.log2 + 1) * 2 ^ (52 - r.log2) := Nat.mul_lt_mul_of_pos_right hb (Nat.two_pow_pos _)
    rw [← Nat.pow_add, show r.log2 + 1 + (52 - r.log2) = 53 from by omega] at this
    exact this
  exact ⟨hlr, h1, h3⟩
theorem nrm_spec (b : Nat) (hb : b < 18446744073709551616) (h0 : 0 < rung b) (h2 : rung b < 9218868437227405312) :
    nrm b < 18446744073709551616 ∧ 4503599627370496 ≤ rung (nrm b) ∧ rung (nrm b) < 9218868437227405312 ∧ isNeg (nrm b) = isNeg b := by
  unfold nrm
  by_cases h : rung b < 4503599627370496
  · rw [if_pos h]
    obtain ⟨g1, g2, g3⟩ := sub_bounds _ h0 h
    generalize rung b * 2 ^ (52 - (rung b).log2) = y at *
    generalize (rung b).log2 = l at *
    have e : (if isNeg b = true then 9223372036854775808 else 0) = 9223372036854775808 ∨ (if isNeg b = true then 9223372036854775808 else 0) = 0 := by cases isNeg b <;> simp
    unfold rung
    have e3 : isNeg ((if isNeg b = true then 9223372036854775808 else 0) + (l * 4503599627370496 + y)) = isNeg b := by
      unfold isNeg
      by_cases h9 : 9223372036854775808 ≤ b
      · simp [h9]
      · simp [h9]; omega
    refine ⟨?_, ?_, ?_, e3⟩ <;> rcases e with e | e <;> rw [e] <;> omega
  · rw [if_neg h]; exact ⟨hb, by omega, h2, rfl⟩
theorem mul_up (b : Nat) (hb : b < 18446744073709551616) (h0 : 0 < rung b) (h : rung b < 4503599627370496) : floatBits .mul .f64 b 4841369599423283200 = some (nrm b) := by
  show ((FloatKind.f64.format.read b).product (FloatKind.f64.format.read 4841369599423283200)).map FloatKind.f64.format.write = some (nrm b)
  rw [show FloatKind.f64.format.read b = .number (isNeg b) (rung b) (-1074) from (read_eq b hb).trans (if_pos h), show FloatKind.f64.format.read 4841369599423283200 = .number false 4503599627370496 0 by decide]
  show some (Ieee.double.nearest (isNeg b ^^ false) (rung b * 4503599627370496) (-1074 + 0)) = _
  rw [Bool.xor_false, show (-1074 + 0 : Int) = -1074 by decide, nearest_up _ _ h0 h, word_eq]
  unfold nrm
  rw [if_pos h]
  cases isNeg b <;> simp
theorem i64_and2047 (n : Int) : bits .and .i64 n 2047 = n % 2048 := by
  have h : (BitVec.ofInt 64 2047).toNat = 2 ^ 11 - 1 := by decide
  have key : (BitVec.ofInt 64 n &&& BitVec.ofInt 64 2047).toNat = (n % ((2 ^ 64 : Nat) : Int)).toNat % 2 ^ 11 := by
    rw [BitVec.toNat_and, BitVec.toNat_ofInt, h, Nat.and_two_pow_sub_one_eq_mod]
  show IntKind.i64.wrap ((BitVec.ofInt 64 n &&& BitVec.ofInt 64 2047).toNat : Nat) = n % 2048
  rw [key, IntKind.wrap_i64]
  omega
end Go.Proofs.YtjhhpcjnhjbpdaaGreat

/- A number of 128 bits without its lowest ones, in plain numbers. -/
set_option linter.unusedSimpArgs false
set_option linter.unusedVariables false
namespace Go.Proofs.YtjhhpcjnhjbpdaaGreat
open Go.RowKit Mo
/-- what is left of P without its lowest k bits, whether one of these was set, whether that has 64 bits -/
def DownIs (P k : Nat) (q : Int) (r f : Bool) : Prop :=
  0 ≤ q ∧ q < 18446744073709551616 ∧ f = decide (P / 2 ^ k < 18446744073709551616) ∧ (f = true → q = (P / 2 ^ k : Nat) ∧ r = decide (P % 2 ^ k ≠ 0))
theorem p64 {k : Nat} (h : 64 ≤ k) : 2 ^ k = 18446744073709551616 * 2 ^ (k - 64) := by
  have e : (18446744073709551616 : Nat) = 2 ^ 64 := by decide
  rw [e, ← Nat.pow_add, show 64 + (k - 64) = k by omega]
theorem p64' {k : Nat} (h : k ≤ 64) : 18446744073709551616 = 2 ^ k * 2 ^ (64 - k) := by
  have e : (18446744073709551616 : Nat) = 2 ^ 64 := by decide
  rw [e, ← Nat.pow_add, show k + (64 - k) = 64 by omega]
theorem low_zero (x k : Nat) (h : k ≤ 64) : x * 2 ^ (64 - k) % 18446744073709551616 = x % 2 ^ k * 2 ^ (64 - k) := by
  rw [p64' h, Nat.mul_mod_mul_right]
theorem down_all (P k : Nat) (hP : P < 1329227995784915872903807060280344576) (h0 : 0 < P) (hk : 128 ≤ k) : DownIs P k 0 true true := by
  have h : P < 2 ^ k := Nat.lt_of_lt_of_le hP (Nat.le_trans (show 1329227995784915872903807060280344576 ≤ 2 ^ 128 by decide) (Nat.pow_le_pow_right (by decide) hk))
  unfold DownIs
  rw [Nat.div_eq_of_lt h, Nat.mod_eq_of_lt h]
  refine ⟨by decide, by decide, by decide, fun _ => ⟨rfl, ?_⟩⟩
  simp; omega
theorem down_over (P k : Nat) (hP : P < 1329227995784915872903807060280344576) (hk : 64 ≤ k) (hk2 : k < 128) (r : Bool)
    (hr : r = true ↔ (P / 18446744073709551616 % 2 ^ (k - 64) ≠ 0 ∨ P % 18446744073709551616 ≠ 0)) :
    DownIs P k (P / 18446744073709551616 / 2 ^ (k - 64) : Nat) r true := by
  have e : P / 18446744073709551616 / 2 ^ (k - 64) = P / 2 ^ k := by rw [Nat.div_div_eq_div_mul, ← p64 hk]
  have hm : P % 2 ^ k = P % 18446744073709551616 + 18446744073709551616 * (P / 18446744073709551616 % 2 ^ (k - 64)) := by rw [p64 hk, Nat.mod_mul]
  have hq : P / 2 ^ k < 18446744073709551616 := by
    rw [← e]; exact Nat.lt_of_le_of_lt (Nat.div_le_self _ _) (by omega)
  unfold DownIs
  rw [e]
  generalize P / 2 ^ k = q at *
  refine ⟨by omega, by omega, by simpa using hq, fun _ => ⟨rfl, ?_⟩⟩
  rw [Bool.eq_iff_iff, hr, hm]
  generalize P / 18446744073709551616 % 2 ^ (k - 64) = x
  generalize P % 18446744073709551616 = y
  simp; omega
theorem down_under (P k : Nat) (hP : P < 1329227995784915872903807060280344576) (hk : k < 64) (q : Int) (r f : Bool)
    (hq : q = bits .or .u64 (P % 18446744073709551616 / 2 ^ k : Nat) (P / 18446744073709551616 * 2 ^ (64 - k) % 18446744073709551616 : Nat))
    (hr : r = true ↔ P % 18446744073709551616 * 2 ^ (64 - k) % 18446744073709551616 ≠ 0) (hf : f = true ↔ P / 18446744073709551616 / 2 ^ k = 0) : DownIs P k q r f := by
  have hT := p64' (Nat.le_of_lt hk)
  have hk0 : 0 < 2 ^ k := Nat.two_pow_pos _
  have ha : P % 18446744073709551616 / 2 ^ k < 2 ^ (64 - k) := by
    rw [Nat.div_lt_iff_lt_mul hk0, Nat.mul_comm, ← hT]; omega
  have ha2 : P % 18446744073709551616 / 2 ^ k < 18446744073709551616 := Nat.lt_of_le_of_lt (Nat.div_le_self _ _) (by omega)
  have hb2 : P / 18446744073709551616 * 2 ^ (64 - k) % 18446744073709551616 < 18446744073709551616 := by omega
  rw [u64_or_nat _ _ ha2 hb2, low_zero _ _ (Nat.le_of_lt hk), Nat.or_comm, nat_join (64 - k) _ _ (Nat.mul_mod_left _ _) ha] at hq
  have hb3 : P / 18446744073709551616 % 2 ^ k * 2 ^ (64 - k) + P % 18446744073709551616 / 2 ^ k < 18446744073709551616 := by
    have h1 : P / 18446744073709551616 % 2 ^ k < 2 ^ k := Nat.mod_lt _ hk0
    have h2 : P / 18446744073709551616 % 2 ^ k * 2 ^ (64 - k) + 2 ^ (64 - k) ≤ 2 ^ k * 2 ^ (64 - k) := by
      rw [← Nat.succ_mul]; exact Nat.mul_le_mul_right _ h1
    rw [← hT] at h2; omega
  have e : P / 2 ^ k = P / 18446744073709551616 * 2 ^ (64 - k) + P % 18446744073709551616 / 2 ^ k := by
    have h : P = P % 18446744073709551616 + 2 ^ k * (2 ^ (64 - k) * (P / 18446744073709551616)) := by
      rw [← Nat.mul_assoc, ← hT]; omega
    conv => lhs; rw [h]
    rw [Nat.add_mul_div_left _ _ hk0, Nat.mul_comm (2 ^ (64 - k)), Nat.add_comm]
  have hm : P % 2 ^ k = P % 18446744073709551616 % 2 ^ k := by
    have h : P = P % 18446744073709551616 + 2 ^ k * (2 ^ (64 - k) * (P / 18446744073709551616)) := by
      rw [← Nat.mul_assoc, ← hT]; omega
    conv => lhs; rw [h]
    rw [Nat.add_mul_mod_self_left]
  have hfe : f = decide (P / 2 ^ k < 18446744073709551616) := by
    rw [Bool.eq_iff_iff, hf, e]
    constructor
    · intro h
      have : P / 18446744073709551616 < 2 ^ k := by
        rcases Nat.lt_or_ge (P / 18446744073709551616) (2 ^ k) with h9 | h9
        · exact h9
        · have := Nat.div_pos h9 hk0; omega
      rw [Nat.mod_eq_of_lt this] at hb3
      exact decide_eq_true hb3
    · intro h
      have h := of_decide_eq_true h
      refine Nat.div_eq_of_lt ?_
      rcases Nat.lt_or_ge (P / 18446744073709551616) (2 ^ k) with h9 | h9
      · exact h9
      · have := Nat.mul_le_mul_right (2 ^ (64 - k)) h9
        rw [← hT] at this
        exact absurd (Nat.lt_of_le_of_lt (Nat.le_trans this (Nat.le_add_right _ _)) h) (Nat.lt_irrefl _)
  unfold DownIs
  refine ⟨by rw [hq]; exact Int.natCast_nonneg _, by rw [hq]; exact Int.ofNat_lt.2 hb3, hfe, fun h => ⟨?_, ?_⟩⟩
  · have h1 : P / 18446744073709551616 < 2 ^ k := by
      have h := hf.1 h
      rcases Nat.lt_or_ge (P / 18446744073709551616) (2 ^ k) with h9 | h9
      · exact h9
      · have := Nat.div_pos h9 hk0; omega
    rw [hq, e, Nat.mod_eq_of_lt h1]
  · rw [Bool.eq_iff_iff, hr, hm, low_zero _ _ (Nat.le_of_lt hk)]
    have : 0 < 2 ^ (64 - k) := Nat.two_pow_pos _
    generalize P % 18446744073709551616 % 2 ^ k = x
    generalize 2 ^ (64 - k) = y at this ⊢
    rw [decide_eq_true_iff]
    exact ⟨fun h e => h (by rw [e, Nat.zero_mul]), fun h => Nat.mul_ne_zero h (by omega)⟩
end Go.Proofs.YtjhhpcjnhjbpdaaGreat

/- The product's outcome, in plain numbers. -/
set_option linter.unusedSimpArgs false
set_option linter.unusedVariables false
namespace Go.Proofs.YtjhhpcjnhjbpdaaGreat
open Go.RowKit Mo
def outV (neg : Bool) (Q : Nat) : Int := if pfit neg Q then (if neg then -(Q : Int) else Q) else 0
def outE (neg : Bool) (Q : Nat) : Int := if pfit neg Q then 0 else 11
theorem pfit_big {neg : Bool} {Q : Nat} (h : 9223372036854775808 < Q) : pfit neg Q = false := by
  unfold pfit; cases neg <;> simp <;> omega
theorem out_big {neg : Bool} {Q : Nat} (h : 9223372036854775808 < Q) : outV neg Q = 0 ∧ outE neg Q = 11 := by
  unfold outV outE; rw [pfit_big h]; exact ⟨rfl, rfl⟩
/-- the product's size: P times 2 ^ y, or P cut -/
def outQ (neg : Bool) (P : Nat) (y : Int) : Nat := if 0 ≤ y then P * 2 ^ y.toNat else P / 2 ^ (-y).toNat + if (decide (P % 2 ^ (-y).toNat ≠ 0) && neg) = true then 1 else 0
theorem outQ_zero (neg : Bool) (y : Int) : outQ neg 0 y = 0 := by
  unfold outQ; split <;> simp
theorem out_none (neg : Bool) (y : Int) : outV neg (outQ neg 0 y) = 0 ∧ outE neg (outQ neg 0 y) = 0 := by
  rw [outQ_zero]; cases neg <;> decide
theorem outQ_hi {neg : Bool} {P : Nat} {y : Int} (hy : 0 ≤ y) (h : 18446744073709551616 ≤ P) : 9223372036854775808 < outQ neg P y := by
  unfold outQ; rw [if_pos hy]
  have := Nat.mul_le_mul h (Nat.one_le_two_pow (n := y.toNat)); omega
theorem outQ_far {neg : Bool} {P : Nat} {y : Int} (hy : 64 ≤ y) (h : 0 < P) : 9223372036854775808 < outQ neg P y := by
  unfold outQ; rw [if_pos (by omega)]
  have h2 : 2 ^ 64 ≤ 2 ^ y.toNat := Nat.pow_le_pow_right (by decide) (by omega)
  have := Nat.mul_le_mul h h2
  have e : (2 : Nat) ^ 64 = 18446744073709551616 := by decide
  rw [e] at this; omega
theorem outQ_long {neg : Bool} {P : Nat} {y : Int} (hy : 0 ≤ y) (h : 0 < P) (hP : P < 18446744073709551616) (hl : 64 < (Lib.bitLen P : Int) + y) : 9223372036854775808 < outQ neg P y := by
  unfold outQ; rw [if_pos hy]
  obtain ⟨h1, h3, _⟩ := Lib.bitLenAux_bounds 64 P hP (by omega)
  have h2 : 2 ^ (64 - (Lib.bitLen P - 1)) ≤ 2 ^ y.toNat := Nat.pow_le_pow_right (by decide) (by unfold Lib.bitLen at *; omega)
  have := Nat.mul_le_mul h3 h2
  have hle : Lib.bitLenAux 64 P ≤ 64 := Lib.bitLenAux_le 64 P 64 hP
  rw [← Nat.pow_add] at this
  unfold Lib.bitLen at this
  rw [show Lib.bitLenAux 64 P - 1 + (64 - (Lib.bitLenAux 64 P - 1)) = 64 by omega] at this
  have e : (2 : Nat) ^ 64 = 18446744073709551616 := by decide
  rw [e] at this; omega
theorem outQ_fits {neg : Bool} {P : Nat} {y : Int} (hy : 0 ≤ y) (h : 0 < P) (hP : P < 18446744073709551616) (hl : (Lib.bitLen P : Int) + y ≤ 64) : outQ neg P y = P * 2 ^ y.toNat ∧ P * 2 ^ y.toNat < 18446744073709551616 := by
  unfold outQ; rw [if_pos hy]
  refine ⟨rfl, ?_⟩
  obtain ⟨h1, _, h3⟩ := Lib.bitLenAux_bounds 64 P hP (by omega)
  have h2 : 2 ^ (Lib.bitLenAux 64 P) * 2 ^ y.toNat ≤ 2 ^ 64 := by
    rw [← Nat.pow_add]; exact Nat.pow_le_pow_right (by decide) (by unfold Lib.bitLen at hl; omega)
  have := Nat.mul_lt_mul_of_pos_right h3 (Nat.two_pow_pos y.toNat)
  have e : (2 : Nat) ^ 64 = 18446744073709551616 := by decide
  rw [e] at h2; omega
theorem outQ_down {neg : Bool} {P : Nat} {y : Int} (hy : y < 0) : outQ neg P y = P / 2 ^ (-y).toNat + if (decide (P % 2 ^ (-y).toNat ≠ 0) && neg) = true then 1 else 0 := by
  unfold outQ; rw [if_neg (by omega)]
end Go.Proofs.YtjhhpcjnhjbpdaaGreat

/- The product's outcome is the document's. -/
set_option linter.unusedSimpArgs false
set_option linter.unusedVariables false
namespace Go.Proofs.YtjhhpcjnhjbpdaaGreat
open Go.RowKit Mo
theorem rung_nrm (b : Nat) (h0 : 0 < rung b) (h : rung b < 4503599627370496) : rung (nrm b) = (rung b).log2 * 4503599627370496 + rung b * 2 ^ (52 - (rung b).log2) := by
  obtain ⟨g1, g2, g3⟩ := sub_bounds _ h0 h
  unfold nrm
  rw [if_pos h]
  generalize rung b * 2 ^ (52 - (rung b).log2) = y at *
  generalize (rung b).log2 = l at *
  unfold rung
  cases isNeg b <;> simp <;> omega
theorem pabs_eq (n : Int) (b : Nat) (h0 : 0 < rung b) (y : Int) (hy : y = nrx b + (rung (nrm b) / 4503599627370496 : Nat) - 1075) :
    pabs n b false = outQ (pneg n b) (n.natAbs * (4503599627370496 + rung (nrm b) % 4503599627370496)) y := by
  unfold pabs
  generalize pneg n b = s
  generalize n.natAbs = A
  by_cases h : rung b < 4503599627370496
  · obtain ⟨g1, g2, g3⟩ := sub_bounds _ h0 h
    have e1 := rung_nrm b h0 h
    have e2 : rung (nrm b) / 4503599627370496 = (rung b).log2 + 1 := by
      rw [e1]
      generalize rung b * 2 ^ (52 - (rung b).log2) = z at *
      omega
    have e3 : 4503599627370496 + rung (nrm b) % 4503599627370496 = rung b * 2 ^ (52 - (rung b).log2) := by
      rw [e1]
      generalize rung b * 2 ^ (52 - (rung b).log2) = z at *
      omega
    have e4 : nrx b = -52 := by unfold nrx; rw [if_pos h]
    have e5 : Mo.part b = rung b := by unfold Mo.part; rw [if_pos h]
    have e6 : expf b = 1 := by unfold expf; rw [if_pos h]
    rw [e2, e4] at hy
    rw [e3, e5, e6]
    unfold outQ sq sl
    obtain ⟨K, hK⟩ : ∃ K, 1075 - 1 = K := ⟨_, rfl⟩
    have hp : (2 : Nat) ^ (1126 - (rung b).log2) = 2 ^ K * 2 ^ (52 - (rung b).log2) := by rw [← Nat.pow_add]; congr 1; omega
    have hpos : 0 < (2 : Nat) ^ (52 - (rung b).log2) := Nat.two_pow_pos _
    rw [hK, if_neg (show ¬ 1075 ≤ 1 by decide), if_neg (show ¬ 0 ≤ y by omega), show (-y).toNat = 1126 - (rung b).log2 by omega, hp, ← Nat.mul_assoc, Nat.mul_div_mul_right _ _ hpos, Nat.mul_mod_mul_right]
    have hz : decide (A * rung b % 2 ^ K * 2 ^ (52 - (rung b).log2) ≠ 0) = decide (A * rung b % 2 ^ K ≠ 0) := by
      rw [Bool.eq_iff_iff, decide_eq_true_iff, decide_eq_true_iff]
      exact ⟨fun h e => h (by rw [e, Nat.zero_mul]), fun h => Nat.mul_ne_zero h (by omega)⟩
    rw [hz]
    cases s <;> simp
  · have e4 : nrx b = 0 := by unfold nrx; rw [if_neg h]
    have e7 : nrm b = b := by unfold nrm; rw [if_neg h]
    have e5 : Mo.part b = 4503599627370496 + rung b % 4503599627370496 := by unfold Mo.part; rw [if_neg h]
    have e6 : expf b = rung b / 4503599627370496 := by unfold expf; rw [if_neg h]
    rw [e7, e4] at hy
    rw [e7, e5, e6]
    generalize A * (4503599627370496 + rung b % 4503599627370496) = N
    generalize rung b / 4503599627370496 = x at *
    unfold outQ sq sl
    by_cases hx : 1075 ≤ x
    · rw [if_pos hx, if_pos (show 0 ≤ y by omega), show y.toNat = x - 1075 by omega]
      have : decide (x < 1075) = false := by simp; omega
      rw [this]; simp
    · rw [if_neg hx, if_neg (show ¬ 0 ≤ y by omega), show (-y).toNat = 1075 - x by omega]
      have : decide (x < 1075) = true := by simp; omega
      rw [this]; cases s <;> simp
theorem prod_out (n : Int) (b : Nat) (h0 : 0 < rung b) (h2 : rung b < 9218868437227405312) (y : Int) (hy : y = nrx b + (rung (nrm b) / 4503599627370496 : Nat) - 1075) (P : Nat) (hP : P = n.natAbs * (4503599627370496 + rung (nrm b) % 4503599627370496)) :
    outV (pneg n b) (outQ (pneg n b) P y) = prodV n b false ∧ outE (pneg n b) (outQ (pneg n b) P y) = prodE n b false := by
  have e : prodE n b false = outE (pneg n b) (outQ (pneg n b) P y) := by
    unfold prodE outE
    rw [if_neg (by omega), if_neg (by omega), pabs_eq n b h0 y hy, hP]
  refine ⟨?_, e.symm⟩
  unfold prodV
  rw [e, pabs_eq n b h0 y hy, hP]
  unfold outV outE
  cases pfit (pneg n b) (outQ (pneg n b) (n.natAbs * (4503599627370496 + rung (nrm b) % 4503599627370496)) y) <;> simp
theorem prod_zero (n : Int) (b : Nat) (h0 : rung b = 0) : prodV n b false = 0 ∧ prodE n b false = 0 := by
  have e0 : pabs n b false = 0 := by
    have e1 : Mo.part b = 0 := by unfold Mo.part; rw [if_pos (by omega), h0]
    unfold pabs
    rw [e1]
    generalize expf b = x
    simp [sq, sl]
  have e : prodE n b false = 0 := by
    unfold prodE
    rw [if_neg (by omega), if_neg (by omega), e0, if_pos (by cases pneg n b <;> decide)]
  refine ⟨?_, e⟩
  unfold prodV
  rw [e, e0]; simp
end Go.Proofs.YtjhhpcjnhjbpdaaGreat
