/- Plain facts on floats by their bits (order, rounding of what is exact), the exact product of a number and a float, and numbers as digits to the base two. No program in sight. -/
import Derived.Laws.FloatArith
set_option linter.unusedSimpArgs false
set_option linter.unusedVariables false
namespace Mo
def isNeg (b : Nat) : Bool := decide (9223372036854775808 ≤ b)
def rung (b : Nat) : Nat := b % 9223372036854775808
def ikey (b : Nat) : Int := if isNeg b then -(rung b : Int) else (rung b : Int)
def isNaN (b : Nat) : Bool := decide (9218868437227405312 < rung b)

theorem two63 : (2 : Nat) ^ (11 + 52) = 9223372036854775808 := by decide
theorem signWeight_eq : Ieee.double.signWeight = 9223372036854775808 := by decide
theorem binade_eq : Ieee.double.binade = 4503599627370496 := by decide
theorem infRung_eq : Ieee.double.infRung = 9218868437227405312 := by decide
theorem leastPlace_eq : Ieee.double.leastPlace = -1074 := by decide

theorem read_eq (b : Nat) (hb : b < 18446744073709551616) : Ieee.double.read b =
    if rung b < 4503599627370496 then .number (isNeg b) (rung b) (-1074)
    else if rung b < 9218868437227405312 then .number (isNeg b) (4503599627370496 + rung b % 4503599627370496) (-1074 + (rung b / 4503599627370496 - 1 : Nat))
    else if rung b = 9218868437227405312 then .infinity (isNeg b)
    else .nan (isNeg b) (rung b - 9218868437227405312) := by
  have hs : (b / 9223372036854775808 % 2 == 1) = isNeg b := by
    unfold isNeg
    rw [Bool.eq_iff_iff]; simp; omega
  unfold Ieee.Format.read
  simp only [signWeight_eq, binade_eq, infRung_eq, leastPlace_eq, hs]
  rfl

/-- the size of a finite rung, in units of 2^-1074 -/
def mag (r : Nat) : Nat := if r < 4503599627370496 then r else (4503599627370496 + r % 4503599627370496) * 2 ^ (r / 4503599627370496 - 1)

theorem mag_lt {r s : Nat} (h : r < s) : mag r < mag s := by
  unfold mag
  by_cases hs : s < 4503599627370496
  · rw [if_pos hs, if_pos (by omega)]; exact h
  · rw [if_neg hs]
    have hq : 1 ≤ s / 4503599627370496 := by omega
    by_cases hr : r < 4503599627370496
    · rw [if_pos hr]
      have : 1 ≤ 2 ^ (s / 4503599627370496 - 1) := Nat.one_le_two_pow
      have h2 : (4503599627370496 + s % 4503599627370496) * 1 ≤ (4503599627370496 + s % 4503599627370496) * 2 ^ (s / 4503599627370496 - 1) := Nat.mul_le_mul_left _ this
      omega
    · rw [if_neg hr]
      by_cases he : r / 4503599627370496 = s / 4503599627370496
      · rw [he]
        exact Nat.mul_lt_mul_of_pos_right (by omega) (Nat.two_pow_pos _)
      · have hlt : r / 4503599627370496 < s / 4503599627370496 := by omega
        obtain ⟨a, ha⟩ : ∃ a, r / 4503599627370496 - 1 = a := ⟨_, rfl⟩
        obtain ⟨c, hc⟩ : ∃ c, s / 4503599627370496 - 1 = a + 1 + c := ⟨s / 4503599627370496 - 1 - (a + 1), by omega⟩
        rw [ha, hc]
        have h1 : (4503599627370496 + r % 4503599627370496) * 2 ^ a < (2 * 4503599627370496) * 2 ^ a :=
          Nat.mul_lt_mul_of_pos_right (by omega) (Nat.two_pow_pos _)
        have h2 : (2 * 4503599627370496) * 2 ^ a = 4503599627370496 * 2 ^ (a + 1) := by rw [Nat.pow_succ]; omega
        have h3 : 4503599627370496 * 2 ^ (a + 1) ≤ (4503599627370496 + s % 4503599627370496) * 2 ^ (a + 1 + c) :=
          Nat.mul_le_mul (by omega) (Nat.pow_le_pow_right (by decide) (by omega))
        omega

theorem mag_eq_iff {r s : Nat} : mag r = mag s ↔ r = s := by
  constructor
  · intro h
    rcases Nat.lt_trichotomy r s with h1 | h1 | h1
    · have := mag_lt h1; omega
    · exact h1
    · have := mag_lt h1; omega
  · rintro rfl; rfl
theorem mag_lt_iff {r s : Nat} : mag r < mag s ↔ r < s := by
  constructor
  · intro h
    rcases Nat.lt_trichotomy r s with h1 | h1 | h1
    · exact h1
    · subst h1; omega
    · have := mag_lt h1; omega
  · exact mag_lt
theorem mag_zero : mag 0 = 0 := rfl

/-- what a finite word stands for, with the size in units of 2^-1074 -/
theorem signed_scaled (s : Bool) (m a : Nat) (k : Nat) : Ieee.signed s m a * (2 ^ k : Nat) = Ieee.signed s m (a + k) := by
  unfold Ieee.signed
  simp only [Nat.shiftLeft_eq, Nat.pow_add]
  split
  · rw [Int.neg_mul, ← Int.natCast_mul, Nat.mul_assoc]
  · rw [← Int.natCast_mul, Nat.mul_assoc]

theorem compare_congr {a b c d : Int} (h1 : a < b ↔ c < d) (h2 : a = b ↔ c = d) : compare a b = compare c d := by
  simp only [compare, compareOfLessAndEq]
  by_cases h : a < b
  · rw [if_pos h, if_pos (h1.1 h)]
  · rw [if_neg h, if_neg (fun h' => h (h1.2 h'))]
    by_cases h' : a = b
    · rw [if_pos h', if_pos (h2.1 h')]
    · rw [if_neg h', if_neg (fun h'' => h' (h2.2 h''))]

theorem cmp_lt {a b : Int} (h : a < b) : compare a b = .lt := by simp only [compare, compareOfLessAndEq]; rw [if_pos h]
theorem cmp_gt {a b : Int} (h : b < a) : compare a b = .gt := by simp only [compare, compareOfLessAndEq]; rw [if_neg (by omega), if_neg (by omega)]
theorem cmp_eq {a b : Int} (h : a = b) : compare a b = .eq := by simp only [compare, compareOfLessAndEq]; rw [if_neg (by omega), if_pos h]
theorem cmp_lt_iff {a b : Int} : compare a b = .lt ↔ a < b := by
  rcases Int.lt_trichotomy a b with h | h | h
  · simp [cmp_lt h, h]
  · simp [cmp_eq h, h]
  · simp [cmp_gt h]; omega
theorem cmp_gt_iff {a b : Int} : compare a b = .gt ↔ b < a := by
  rcases Int.lt_trichotomy a b with h | h | h
  · simp [cmp_lt h]; omega
  · simp [cmp_eq h, h]
  · simp [cmp_gt h, h]
theorem cmp_eq_iff {a b : Int} : compare a b = .eq ↔ a = b := by
  rcases Int.lt_trichotomy a b with h | h | h
  · simp [cmp_lt h]; omega
  · simp [cmp_eq h, h]
  · simp [cmp_gt h]; omega

theorem compare_mul {a b : Int} (k : Nat) (hk : 0 < k) : compare (a * k) (b * k) = compare a b := by
  refine compare_congr ?_ ?_
  · exact Int.mul_lt_mul_right (by omega)
  · constructor
    · intro h; exact Int.eq_of_mul_eq_mul_right (by omega) h
    · rintro rfl; rfl

def sval (s : Bool) (m : Nat) : Int := if s then -(m : Int) else (m : Int)

/-- numbers stand to each other as their sizes in units of 2^-1074 do -/
theorem order_number (s t : Bool) (m n a c : Nat) :
    Ieee.Datum.order (.number s m (-1074 + a)) (.number t n (-1074 + c)) = some (compare (sval s (m * 2 ^ a)) (sval t (n * 2 ^ c))) := by
  simp only [Ieee.Datum.order]
  have e1 : ((-1074 + (a : Int)) - min (-1074 + (a : Int)) (-1074 + (c : Int))).toNat = a - min a c := by omega
  have e2 : ((-1074 + (c : Int)) - min (-1074 + (a : Int)) (-1074 + (c : Int))).toNat = c - min a c := by omega
  rw [e1, e2, ← compare_mul (2 ^ min a c) (Nat.two_pow_pos _), signed_scaled, signed_scaled]
  have e3 : a - min a c + min a c = a := by omega
  have e4 : c - min a c + min a c = c := by omega
  rw [e3, e4]
  simp only [Ieee.signed, sval, Nat.shiftLeft_eq]

theorem read_finite (b : Nat) (hb : b < 18446744073709551616) (h : rung b < 9218868437227405312) :
    ∃ m a : Nat, Ieee.double.read b = .number (isNeg b) m (-1074 + (a : Int)) ∧ m * 2 ^ a = mag (rung b) := by
  rw [read_eq b hb]
  unfold mag
  by_cases h1 : rung b < 4503599627370496
  · rw [if_pos h1, if_pos h1]; exact ⟨rung b, 0, by simp, by simp⟩
  · rw [if_neg h1, if_pos h, if_neg h1]; exact ⟨_, _, rfl, rfl⟩

theorem ikey_cmp_fin (x y : Nat) : compare (sval (isNeg x) (mag (rung x))) (sval (isNeg y) (mag (rung y))) = compare (ikey x) (ikey y) := by
  have l := @mag_lt_iff (rung x) (rung y)
  have l' := @mag_lt_iff (rung y) (rung x)
  have e := @mag_eq_iff (rung x) (rung y)
  have z := @mag_eq_iff (rung x) 0
  have z' := @mag_eq_iff (rung y) 0
  rw [mag_zero] at z z'
  unfold sval ikey
  refine compare_congr ?_ ?_ <;> cases isNeg x <;> cases isNeg y <;> simp <;> omega

theorem order_eq (x y : Nat) (hx : x < 18446744073709551616) (hy : y < 18446744073709551616) (nx : isNaN x = false) (ny : isNaN y = false) :
    Ieee.double.order x y = some (compare (ikey x) (ikey y)) := by
  simp only [isNaN, decide_eq_false_iff_not] at nx ny
  unfold Ieee.Format.order
  by_cases h1 : rung x < 9218868437227405312
  · obtain ⟨m, a, hr, hm⟩ := read_finite x hx h1
    by_cases h2 : rung y < 9218868437227405312
    · obtain ⟨n, c, hr2, hn⟩ := read_finite y hy h2
      rw [hr, hr2, order_number, hm, hn, ikey_cmp_fin]
    · have e : rung y = 9218868437227405312 := by omega
      rw [hr, read_eq y hy, if_neg (by omega), if_neg (by omega), if_pos e]
      simp only [Ieee.Datum.order, ikey]
      cases isNeg y
      · simp only [Bool.false_eq_true, if_false]; rw [cmp_lt]; split <;> omega
      · simp only [if_true]; rw [cmp_gt]; split <;> omega
  · have e : rung x = 9218868437227405312 := by omega
    rw [read_eq x hx, if_neg (by omega), if_neg (by omega), if_pos e]
    by_cases h2 : rung y < 9218868437227405312
    · obtain ⟨n, c, hr2, hn⟩ := read_finite y hy h2
      rw [hr2]
      simp only [Ieee.Datum.order, ikey]
      cases isNeg x
      · simp only [Bool.false_eq_true, if_false]; rw [cmp_gt]; split <;> omega
      · simp only [if_true]; rw [cmp_lt]; split <;> omega
    · have e' : rung y = 9218868437227405312 := by omega
      rw [read_eq y hy, if_neg (by omega), if_neg (by omega), if_pos e']
      simp only [Ieee.Datum.order, ikey]
      cases isNeg y <;> cases isNeg x <;> simp [compare, compareOfLessAndEq, e, e', Bool.toNat]

theorem order_nan_left (x y : Nat) (hx : x < 18446744073709551616) (nx : isNaN x = true) : Ieee.double.order x y = none := by
  simp only [isNaN, decide_eq_true_eq] at nx
  unfold Ieee.Format.order
  rw [read_eq x hx, if_neg (by omega), if_neg (by omega), if_neg (by omega)]
  cases Ieee.double.read y <;> rfl
theorem order_nan_right (x y : Nat) (hy : y < 18446744073709551616) (ny : isNaN y = true) : Ieee.double.order x y = none := by
  simp only [isNaN, decide_eq_true_eq] at ny
  unfold Ieee.Format.order
  rw [read_eq y hy, if_neg (by omega), if_neg (by omega), if_neg (by omega)]
  cases Ieee.double.read x <;> rfl

theorem log2_of {n k : Nat} (h1 : 2 ^ k ≤ n) (h2 : n < 2 ^ (k + 1)) : n.log2 = k :=
  (Nat.log2_eq_iff (by have := Nat.two_pow_pos k; omega)).2 ⟨h1, h2⟩

theorem cut_exact (neg : Bool) (m d : Nat) (hd : d ≤ (m * 2 ^ d).log2 + 2) : Ieee.Toward.even.cut neg (m * 2 ^ d) d = m := by
  unfold Ieee.Toward.cut
  have hp : 0 < 2 ^ d := Nat.two_pow_pos _
  simp only [Nat.min_eq_left hd, Nat.shiftLeft_eq, Nat.one_mul, Nat.mul_mod_left, Nat.mul_div_cancel _ hp]
  have h1 : ¬ (2 ^ d < 2 * 0) := by omega
  have h2 : (2 ^ d == 2 * 0) = false := by rw [beq_eq_false_iff_ne]; omega
  simp [h2]

theorem nearest_normal (neg : Bool) (M k : Nat) (p : Int) (h1 : 4503599627370496 ≤ M) (h2 : M < 9007199254740992) (hp : -1074 ≤ p) (hp2 : p ≤ 971) :
    Ieee.double.nearest neg (M * 2 ^ k) (p - k) = Ieee.double.word neg ((p + 1074).toNat * 4503599627370496 + M) := by
  have hk : 0 < 2 ^ k := Nat.two_pow_pos _
  have hl : (M * 2 ^ k).log2 = 52 + k := by
    refine log2_of ?_ ?_
    · rw [Nat.pow_add]; exact Nat.mul_le_mul_right _ (by omega)
    · rw [show 52 + k + 1 = 53 + k from by omega, Nat.pow_add]
      exact Nat.mul_lt_mul_of_pos_right (by omega) hk
  have hne : M * 2 ^ k ≠ 0 := by
    have : 0 < M * 2 ^ k := Nat.mul_pos (by omega) hk
    omega
  unfold Ieee.Format.nearest
  rw [if_neg hne]
  have f52 : Ieee.double.fractionBits = 52 := rfl
  have lp : Ieee.double.leastPlace = -1074 := by decide
  have bi : Ieee.double.binade = 4503599627370496 := by decide
  have ir : Ieee.double.infRung = 9218868437227405312 := by decide
  simp only [hl, f52, lp, bi, ir]
  have e1 : max (p - (k : Int) + ((52 + k : Nat) : Int) - ((52 : Nat) : Int)) (-1074) = p := by omega
  have e2 : (p - (k : Int) - p).toNat = 0 := by omega
  have e3 : (p - (p - (k : Int))).toNat = k := by omega
  rw [e1, e2, e3, Nat.shiftLeft_eq, Nat.pow_zero, Nat.mul_one, cut_exact _ _ _ (by rw [hl]; omega)]
  have e4 : (p - -1074).toNat = (p + 1074).toNat := by omega
  rw [e4, Nat.min_eq_left (by omega)]

theorem nearest_sub (neg : Bool) (M k : Nat) (h2 : M < 4503599627370496) :
    Ieee.double.nearest neg (M * 2 ^ k) (-1074 - k) = Ieee.double.word neg M := by
  have hk : 0 < 2 ^ k := Nat.two_pow_pos _
  by_cases hM : M = 0
  · subst hM; simp [Ieee.Format.nearest]
  have hlM : M.log2 ≤ 51 := by
    have := (Nat.log2_lt hM (k := 52)).2 (by omega)
    omega
  have hl : (M * 2 ^ k).log2 = M.log2 + k := by
    refine log2_of ?_ ?_
    · rw [Nat.pow_add]; exact Nat.mul_le_mul_right _ (Nat.log2_self_le hM)
    · rw [show M.log2 + k + 1 = M.log2 + 1 + k from by omega, Nat.pow_add]
      exact Nat.mul_lt_mul_of_pos_right Nat.lt_log2_self hk
  have hne : M * 2 ^ k ≠ 0 := by
    have : 0 < M * 2 ^ k := Nat.mul_pos (by omega) hk
    omega
  unfold Ieee.Format.nearest
  rw [if_neg hne]
  have f52 : Ieee.double.fractionBits = 52 := rfl
  have lp : Ieee.double.leastPlace = -1074 := by decide
  have bi : Ieee.double.binade = 4503599627370496 := by decide
  have ir : Ieee.double.infRung = 9218868437227405312 := by decide
  simp only [hl, f52, lp, bi, ir]
  have e1 : max (-1074 - (k : Int) + ((M.log2 + k : Nat) : Int) - ((52 : Nat) : Int)) (-1074) = -1074 := by omega
  have e2 : (-1074 - (k : Int) - -1074).toNat = 0 := by omega
  have e3 : (-1074 - (-1074 - (k : Int))).toNat = k := by omega
  rw [e1, e2, e3, Nat.shiftLeft_eq, Nat.pow_zero, Nat.mul_one, cut_exact _ _ _ (by rw [hl]; omega)]
  have e4 : ((-1074 : Int) - -1074).toNat = 0 := by omega
  rw [e4, Nat.min_eq_left (by omega)]
  simp

/-- a subnormal number's size, brought between 2^52 and 2^53 -/
theorem nearest_up (neg : Bool) (r : Nat) (h0 : 0 < r) (h2 : r < 4503599627370496) :
    Ieee.double.nearest neg (r * 4503599627370496) (-1074) = Ieee.double.word neg (r.log2 * 4503599627370496 + r * 2 ^ (52 - r.log2)) := by
  have hlr : r.log2 ≤ 51 := by
    have := (Nat.log2_lt (Nat.ne_of_gt h0) (k := 52)).2 (by omega)
    omega
  have ha := Nat.log2_self_le (Nat.ne_of_gt h0)
  have hb := @Nat.lt_log2_self r
  have e52 : (4503599627370496 : Nat) = 2 ^ (52 - r.log2) * 2 ^ r.log2 := by rw [← Nat.pow_add, show 52 - r.log2 + r.log2 = 52 from by omega]
  have h1 : 4503599627370496 ≤ r * 2 ^ (52 - r.log2) := by
    rw [e52, Nat.mul_comm]; exact Nat.mul_le_mul_right _ ha
  have h3 : r * 2 ^ (52 - r.log2) < 9007199254740992 := by
    have : r * 2 ^ (52 - r.log2) < 2 ^ (r.log2 + 1) * 2 ^ (52 - r.log2) := Nat.mul_lt_mul_of_pos_right hb (Nat.two_pow_pos _)
    rw [← Nat.pow_add, show r.log2 + 1 + (52 - r.log2) = 53 from by omega] at this
    exact this
  have key := nearest_normal neg (r * 2 ^ (52 - r.log2)) r.log2 (-1074 + r.log2) h1 h3 (by omega) (by omega)
  rw [Nat.mul_assoc, ← e52] at key
  rw [show (-1074 : Int) + (r.log2 : Int) - (r.log2 : Int) = -1074 from by omega] at key
  rw [show (-1074 : Int) + (r.log2 : Int) + 1074 = (r.log2 : Int) from by omega, Int.toNat_natCast] at key
  exact key

theorem word_eq (neg : Bool) (r : Nat) : Ieee.double.word neg r = (if neg then 9223372036854775808 + r else r) := by
  have : Ieee.double.signWeight = 9223372036854775808 := by decide
  unfold Ieee.Format.word; rw [this]


def part (b : Nat) : Nat := if rung b < 4503599627370496 then rung b else 4503599627370496 + rung b % 4503599627370496
def expf (b : Nat) : Nat := if rung b < 4503599627370496 then 1 else rung b / 4503599627370496
def pneg (n : Int) (b : Nat) : Bool := decide (n < 0) != isNeg b
/-- 'N * 2 ^ (x - 1075)', downwards, and whether something is lost -/
def sq (N x : Nat) : Nat := if 1075 ≤ x then N * 2 ^ (x - 1075) else N / 2 ^ (1075 - x)
def sl (N x : Nat) : Bool := decide (x < 1075) && decide (N % 2 ^ (1075 - x) ≠ 0)
def pabs (n : Int) (b : Nat) (up : Bool) : Nat := sq (n.natAbs * part b) (expf b) + if (sl (n.natAbs * part b) (expf b) && (pneg n b != up)) = true then 1 else 0
def pfit (neg : Bool) (q : Nat) : Bool := if neg then decide (q ≤ 9223372036854775808) else decide (q < 9223372036854775808)
def prodE (n : Int) (b : Nat) (up : Bool) : Int :=
  if 9218868437227405312 < rung b then 10 else if rung b = 9218868437227405312 then (if n = 0 then 10 else 11)
  else if pfit (pneg n b) (pabs n b up) = true then 0 else 11
def prodV (n : Int) (b : Nat) (up : Bool) : Int :=
  if prodE n b up = 0 then (if pneg n b then -(pabs n b up : Int) else (pabs n b up : Int)) else 0



/-- digits to the base two, the lowest first -/
def val : List Nat → Nat
  | [] => 0
  | d :: r => d + 2 * val r
def bits (l : List Nat) : Prop := ∀ x ∈ l, x ≤ 1
def dig (n : Nat) : List Nat := if h : n = 0 then [] else n % 2 :: dig (n / 2)
termination_by n
decreasing_by omega
theorem dig_zero : dig 0 = [] := by unfold dig; simp
theorem dig_pos {n : Nat} (h : 0 < n) : dig n = n % 2 :: dig (n / 2) := by
  rw [dig]; rw [dif_neg (by omega)]
theorem val_dig (n : Nat) : val (dig n) = n := by
  induction n using Nat.strongRecOn with
  | _ n ih =>
    rcases Nat.eq_zero_or_pos n with h | h
    · subst h; rw [dig_zero]; rfl
    · rw [dig_pos h]; simp only [val]; rw [ih (n / 2) (by omega)]; omega
theorem bits_dig (n : Nat) : bits (dig n) := by
  induction n using Nat.strongRecOn with
  | _ n ih =>
    rcases Nat.eq_zero_or_pos n with h | h
    · subst h; rw [dig_zero]; intro x hx; cases hx
    · rw [dig_pos h]
      intro x hx
      rcases List.mem_cons.1 hx with e | e
      · subst e; omega
      · exact ih (n / 2) (by omega) x e
theorem length_dig (n k : Nat) (h : n < 2 ^ k) : (dig n).length ≤ k := by
  induction k generalizing n with
  | zero => have : n = 0 := by simp at h; omega
            subst this; rw [dig_zero]; simp
  | succ k ih =>
    rcases Nat.eq_zero_or_pos n with h0 | h0
    · subst h0; rw [dig_zero]; simp
    · rw [dig_pos h0]
      have := ih (n / 2) (by rw [Nat.pow_succ] at h; omega)
      simp; omega
theorem val_append (a b : List Nat) : val (a ++ b) = val a + 2 ^ a.length * val b := by
  induction a with
  | nil => simp [val]
  | cons x a ih =>
    simp only [List.cons_append, val, ih, List.length_cons, Nat.pow_succ, Nat.mul_add]
    rw [show 2 ^ a.length * 2 * val b = 2 * (2 ^ a.length * val b) from by rw [Nat.mul_comm (2 ^ a.length) 2, Nat.mul_assoc]]
    omega
theorem val_lt {l : List Nat} (h : bits l) : val l < 2 ^ l.length := by
  induction l with
  | nil => simp [val]
  | cons x l ih =>
    have h1 := ih (fun y hy => h y (List.mem_cons_of_mem _ hy))
    have h2 := h x (List.mem_cons_self ..)
    simp only [val, List.length_cons, Nat.pow_succ]
    omega
theorem val_set (l : List Nat) (j v : Nat) (h : j < l.length) : val (l.set j v) + l[j] * 2 ^ j = val l + v * 2 ^ j := by
  induction l generalizing j with
  | nil => simp at h
  | cons x l ih =>
    cases j with
    | zero => simp only [List.set_cons_zero, val, List.getElem_cons_zero, Nat.pow_zero, Nat.mul_one]; omega
    | succ j =>
      have := ih j (by simpa using h)
      simp only [List.set_cons_succ, val, List.getElem_cons_succ, Nat.pow_succ]
      have e1 : l[j]'(by simpa using h) * (2 ^ j * 2) = 2 * (l[j]'(by simpa using h) * 2 ^ j) := by rw [← Nat.mul_assoc, Nat.mul_comm]
      have e2 : v * (2 ^ j * 2) = 2 * (v * 2 ^ j) := by rw [← Nat.mul_assoc, Nat.mul_comm]
      rw [e1, e2]
      omega
theorem bits_set {l : List Nat} (h : bits l) (j v : Nat) (hv : v ≤ 1) : bits (l.set j v) := by
  intro x hx
  rcases List.mem_or_eq_of_mem_set hx with h1 | h1
  · exact h x h1
  · omega
theorem val_replicate (n : Nat) : val (List.replicate n 0) = 0 := by
  induction n with
  | zero => rfl
  | succ n ih => simp [List.replicate_succ, val, ih]
theorem bits_replicate (n : Nat) : bits (List.replicate n 0) := by
  intro x hx
  have := List.eq_of_mem_replicate hx
  omega
theorem bits_get {l : List Nat} (h : bits l) {j : Nat} (hj : j < l.length) : l[j] ≤ 1 := h _ (List.getElem_mem hj)

/-- one step of adding: what stands at place j, what is carried, and a digit -/
theorem add_step (out : List Nat) (j c b : Nat) (hj : j < out.length) :
    val (out.set j ((out[j] + c + b) % 2)) + (out[j] + c + b) / 2 * 2 ^ (j + 1) = val out + (c + b) * 2 ^ j := by
  have h := val_set out j ((out[j] + c + b) % 2) hj
  have e : (out[j] + c + b) % 2 * 2 ^ j + (out[j] + c + b) / 2 * 2 ^ (j + 1) = (out[j] + c + b) * 2 ^ j := by
    rw [Nat.pow_succ, Nat.mul_comm (2 ^ j) 2, ← Nat.mul_assoc, ← Nat.add_mul]
    congr 1; omega
  rw [Nat.add_mul, Nat.add_mul] at e
  rw [Nat.add_mul]
  omega

theorem val_take_succ (l : List Nat) (k : Nat) (h : k < l.length) : val (l.take (k + 1)) = val (l.take k) + l[k] * 2 ^ k := by
  rw [List.take_succ_eq_append_getElem h, val_append]
  simp only [val, List.length_take, Nat.min_eq_left (Nat.le_of_lt h)]
  rw [Nat.mul_comm]; simp
end Mo
