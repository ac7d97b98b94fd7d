/- NumGrows: the walk. -/
import Derived.Test.YtmnpmcfhmhkibaaKeyW
set_option linter.unusedSimpArgs false
set_option linter.unusedVariables false
namespace Go.Proofs.Ytmnpmcfhmhkibaa
open Go.RowKit Mo
theorem sq_mono {N M x : Nat} (h : N ≤ M) : sq N x ≤ sq M x := by
  unfold sq
  split
  · exact Nat.mul_le_mul_right _ h
  · exact Nat.div_le_div_right h
/-- cut upwards -/
def uq (N x : Nat) : Nat := sq N x + if sl N x then 1 else 0
theorem uq_mono {N M x : Nat} (h : N ≤ M) : uq N x ≤ uq M x := by
  unfold uq sl
  by_cases hx : 1075 ≤ x
  · have : decide (x < 1075) = false := by simp; omega
    rw [this]
    simp only [Bool.false_and, Bool.false_eq_true, if_false, Nat.add_zero]
    exact sq_mono h
  · have : decide (x < 1075) = true := by simp; omega
    rw [this]
    simp only [Bool.true_and, decide_eq_true_eq]
    unfold sq
    rw [if_neg hx, if_neg hx]
    have hD : 0 < 2 ^ (1075 - x) := Nat.two_pow_pos _
    generalize 2 ^ (1075 - x) = D at *
    have h1 := Nat.div_add_mod N D
    have h2 := Nat.div_add_mod M D
    have h3 := Nat.mod_lt N hD
    have h4 := Nat.mod_lt M hD
    have h5 : N / D ≤ M / D := Nat.div_le_div_right h
    generalize N / D = p at *
    generalize M / D = q at *
    generalize N % D = u at *
    generalize M % D = v at *
    rcases (show p = q ∨ p + 1 ≤ q by omega) with rfl | h6
    · have : u ≤ v := by
        generalize D * p = z at *
        omega
      split <;> split <;> omega
    · split <;> split <;> omega
/-- of a float that isn't below 0: the product, where there is one -/
theorem prod_nonneg (n : Int) (b : Nat) (hE : prodE n b false = 0) (hs : isNeg b = false ∨ Mo.part b = 0) :
    prodV n b false = if n < 0 then -(uq (n.natAbs * Mo.part b) (expf b) : Int) else (sq (n.natAbs * Mo.part b) (expf b) : Int) := by
  unfold prodV
  rw [if_pos hE]
  unfold pabs
  rcases hs with hs | hs
  · unfold pneg
    rw [hs]
    by_cases h : n < 0
    · rw [decide_eq_true h, if_pos h]
      simp [uq]
    · rw [decide_eq_false h, if_neg h]
      simp
  · rw [hs, Nat.mul_zero]
    have e1 : sq 0 (expf b) = 0 := by unfold sq; split <;> simp
    have e2 : sl 0 (expf b) = false := by unfold sl; simp
    have e3 : uq 0 (expf b) = 0 := by unfold uq; rw [e1, e2]; rfl
    rw [e1, e2, e3]
    simp
theorem prod_grows (n m : Int) (b : Nat) (h : n ≤ m) (h1 : prodE n b false = 0) (h2 : prodE m b false = 0) (hc : 3 ≤ cls b) : prodV n b false ≤ prodV m b false := by
  have hs : isNeg b = false ∨ Mo.part b = 0 := by
    cases hg : isNeg b
    · exact .inl rfl
    · right
      unfold cls at hc
      rw [hg] at hc
      have : rung b = 0 := by
        by_cases h0 : rung b = 0
        · exact h0
        · exfalso
          rw [if_neg h0] at hc
          simp only [if_true] at hc
          revert hc
          cases isNaN b <;> (by_cases hi : rung b = 9218868437227405312) <;> simp [hi]
      unfold Mo.part; rw [if_pos (by omega), this]
  rw [prod_nonneg n b h1 hs, prod_nonneg m b h2 hs]
  by_cases hn : n < 0
  · rw [if_pos hn]
    by_cases hm : m < 0
    · rw [if_pos hm]
      have := uq_mono (x := expf b) (Nat.mul_le_mul_right (Mo.part b) (show m.natAbs ≤ n.natAbs by omega))
      omega
    · rw [if_neg hm]; omega
  · rw [if_neg hn, if_neg (by omega)]
    have := sq_mono (x := expf b) (Nat.mul_le_mul_right (Mo.part b) (show n.natAbs ≤ m.natAbs by omega))
    omega
theorem prodE_cases (n : Int) (b : Nat) (up : Bool) : prodE n b up = 0 ∨ prodE n b up = 10 ∨ prodE n b up = 11 := by
  unfold prodE
  (repeat' split) <;> simp
set_option maxHeartbeats 2000000 in
theorem numGrows_walk (w : World) (n : Int) (wn : (Lit.int .i64 n).wf = true) (m : Int) (wm : (Lit.int .i64 m).wf = true) (b : Nat) (wb : (Lit.float .f64 b).wf = true) :
    Calls Try.prog 9 #[.int .i64 n, .int .i64 m, .float .f64 b] w fun e w' => e = .returned (.bool true) ∧ Below w.heap.size w w' := by
  obtain ⟨n1, n2⟩ := i64_wf wn
  obtain ⟨m1, m2⟩ := i64_wf wm
  have hb9 := f64_wf wb
  clear wn wm wb
  have HB : Hid (Below w.heap.size w w) := Lib.hid (Below.refl _ _)
  have hg := fun h1 h2 h3 h4 => prod_grows n m b h1 h2 h3 h4
  have c1 := prodE_cases n b false
  have c2 := prodE_cases m b false
  obtain ⟨c, hc⟩ : ∃ c, cls b = c := ⟨_, rfl⟩
  obtain ⟨x, hx⟩ : ∃ x, prodV n b false = x := ⟨_, rfl⟩
  obtain ⟨y, hy⟩ : ∃ y, prodV m b false = y := ⟨_, rfl⟩
  obtain ⟨p, hp⟩ : ∃ p, prodE n b false = p := ⟨_, rfl⟩
  obtain ⟨q, hq⟩ : ∃ q, prodE m b false = q := ⟨_, rfl⟩
  rw [hp] at c1; rw [hq] at c2; rw [hp, hq, hx, hy, hc] at hg
  have HC := Lib.hid hc; have HX := Lib.hid hx; have HY := Lib.hid hy; have HP := Lib.hid hp; have HQ := Lib.hid hq
  clear hc hx hy hp hq
  rcases (show (m < n) ∨ (n ≤ m ∧ c < 3) ∨ (n ≤ m ∧ 3 ≤ c) by omega) with h | ⟨h, h3⟩ | ⟨h, h3⟩
  · clear c1 c2 hg
    go_enter Try.func9, Try.ntmps9
    go_wp2_with (first | (go_at_call 13; refine (awake01_any _).mono ?_; rintro e w5 ⟨rfl, hb⟩; replace HB := Lib.hid (below_then (w := w) (by repeat (first | exact HB.out | refine below_alloc_ ?_ _ | exact Below.refl _ _)) hb); clear hb) | (go_at_call 14; refine (class_any _ _ hb9).mono ?_; rintro e w1 ⟨rfl, rfl⟩; rw [HC.out]))
    go_ret
    exact ⟨rfl, HB.out⟩
  · clear c1 c2 hg
    have d1 : decide (m < n) = false := by simp; omega
    go_enter Try.func9, Try.ntmps9
    go_wp2_with (first | (go_at_call 13; refine (awake01_any _).mono ?_; rintro e w5 ⟨rfl, hb⟩; replace HB := Lib.hid (below_then (w := w) (by repeat (first | exact HB.out | refine below_alloc_ ?_ _ | exact Below.refl _ _)) hb); clear hb) | (go_at_call 14; refine (class_any _ _ hb9).mono ?_; rintro e w1 ⟨rfl, rfl⟩; rw [HC.out]))
    go_ret
    exact ⟨rfl, HB.out⟩
  · have d1 : decide (m < n) = false := by simp; omega
    have d2 : decide (c < 3) = false := by simp; omega
    rcases c1 with rfl | rfl | rfl <;> rcases c2 with rfl | rfl | rfl
    all_goals
      first | (have hle := hg h rfl rfl h3) | skip
      clear hg h h3
      go_enter Try.func9, Try.ntmps9
      go_wp2_with (first
        | (go_at_call 13; refine (awake01_any _).mono ?_; rintro e w5 ⟨rfl, hb⟩; replace HB := Lib.hid (below_then (w := w) (by repeat (first | exact HB.out | refine below_alloc_ ?_ _ | exact Below.refl _ _)) hb); clear hb)
        | (go_at_call 14; refine (class_any _ _ hb9).mono ?_; rintro e w1 ⟨rfl, rfl⟩; rw [HC.out])
        | (go_at_call 23; (have := HB0; clear this); refine (times_any m _ _ m1 m2 hb9).mono ?_; rintro e w1 ⟨rfl, rfl⟩; rw [HY.out, HQ.out])
        | (go_at_call 23; refine (times_any n _ _ n1 n2 hb9).mono ?_; rintro e w1 ⟨rfl, rfl⟩; rw [HX.out, HP.out]; have HB0 := trivial))
      go_ret
      exact ⟨rfl, HB.out⟩
end Go.Proofs.Ytmnpmcfhmhkibaa
