/- NumKeys: the walk. -/
import Derived.Test.YtmnpmcfhmhkibaaKeyW
set_option linter.unusedSimpArgs false
set_option linter.unusedVariables false
namespace Go.Proofs.Ytmnpmcfhmhkibaa
open Go.RowKit Mo
def sameN (a b : Nat) : Bool := decide (a = b) || (isNaN a && isNaN b)
set_option maxHeartbeats 1000000 in
theorem same_any (a b : Nat) (w : World) (ha : a < 18446744073709551616) (hb : b < 18446744073709551616) : Calls Try.prog 27 #[.float .f64 a, .float .f64 b] w fun e w' => e = .returned (.bool (sameN a b)) ∧ w = w' := by
  have hr := run_bits
  unfold sameN
  obtain ⟨p, hp⟩ : ∃ p, isNaN a = p := ⟨_, rfl⟩
  obtain ⟨q, hq⟩ : ∃ q, isNaN b = q := ⟨_, rfl⟩
  have HP := Lib.hid hp; have HQ := Lib.hid hq
  rw [hp, hq]; clear hp hq
  by_cases h : a = b
  · subst h
    rw [decide_eq_true rfl, Bool.true_or]
    go_enter Try.func27, Try.ntmps27
    go_wp2
    go_ret
    exact ⟨rfl, rfl⟩
  · rw [decide_eq_false h, Bool.false_or]
    have d : ((a : Int) == b) = false := beq_eq_false_iff_ne.2 (by omega)
    have d2 : (a == b) = false := beq_eq_false_iff_ne.2 h
    cases p
    · go_enter Try.func27, Try.ntmps27
      go_wp2_with (go_at_call 34; refine (none_any _ _ ha).mono ?_; rintro e w1 ⟨rfl, rfl⟩; rw [HP.out])
      go_ret
      exact ⟨rfl, rfl⟩
    · cases q
      all_goals
        go_enter Try.func27, Try.ntmps27
        go_wp2_with (first | (go_at_call 34; (have := HB0; clear this); refine (none_any _ _ hb).mono ?_; rintro e w1 ⟨rfl, rfl⟩; rw [HQ.out]) | (go_at_call 34; refine (none_any _ _ ha).mono ?_; rintro e w1 ⟨rfl, rfl⟩; rw [HP.out]; have HB0 := trivial))
        go_ret
        exact ⟨rfl, rfl⟩
theorem of_key (b : Nat) (hb : b < 18446744073709551616) : ofOk (keyN b) = true ∧ sameN (ofV (keyN b)) b = true ∧ ofV (keyN b) < 18446744073709551616 := by
  cases hn : isNaN b
  · have hw := word_of b hb
    have hr : rung b ≤ 9218868437227405312 := by unfold isNaN at hn; simpa using hn
    have hk : keyN b ≠ 0 ∧ ofB (keyN b) = b := by
      unfold keyN ofB
      rw [hn]
      cases hg : isNeg b
      · rw [hg] at hw
        simp only [Bool.false_eq_true, if_false, Nat.zero_add] at hw ⊢
        exact ⟨by omega, by rw [if_pos (by omega)]; omega⟩
      · rw [hg] at hw
        simp only [Bool.false_eq_true, if_false, if_true] at hw ⊢
        exact ⟨by omega, by rw [if_neg (by omega)]; omega⟩
    have hv : ofV (keyN b) = b := by unfold ofV; rw [if_neg hk.1, hk.2, hn]; rfl
    refine ⟨by unfold ofOk; rw [hk.2, hn]; simp, by rw [hv]; unfold sameN; simp, by omega⟩
  · have hk : keyN b = 0 := by unfold keyN; rw [hn]; rfl
    rw [hk]
    refine ⟨rfl, ?_, by decide⟩
    unfold sameN
    rw [hn, show isNaN (ofV 0) = true by decide]
    simp
set_option maxHeartbeats 1000000 in
theorem numKeys_walk (w : World) (a : Nat) (wa : (Lit.float .f64 a).wf = true) (b : Nat) (wb : (Lit.float .f64 b).wf = true) :
    Calls Try.prog 7 #[.float .f64 a, .float .f64 b] w fun e w' => e = .returned (.bool true) ∧ Below w.heap.size w w' := by
  have ha := f64_wf wa
  have hb9 := f64_wf wb
  clear wa wb
  have HB : Hid (Below w.heap.size w w) := Lib.hid (Below.refl _ _)
  obtain ⟨o1, o2, o3⟩ := of_key a ha
  have hkl := key_lt a ha
  have hc : ∃ c, cmpN a b = c ∧ ((keyN a < keyN b ∧ c = -1) ∨ (keyN b < keyN a ∧ c = 1) ∨ (keyN a = keyN b ∧ c = 0)) := by
    refine ⟨_, rfl, ?_⟩
    unfold cmpN
    rcases (show keyN a < keyN b ∨ keyN b < keyN a ∨ keyN a = keyN b by omega) with g | g | g
    · left; exact ⟨g, if_pos g⟩
    · right; left; exact ⟨g, by rw [if_neg (by omega), if_pos g]⟩
    · right; right; exact ⟨g, by rw [if_neg (by omega), if_neg (by omega)]⟩
  obtain ⟨c, hc1, hc2⟩ := hc
  obtain ⟨x, hx⟩ : ∃ x, keyN a = x := ⟨_, rfl⟩
  obtain ⟨y, hy⟩ : ∃ y, keyN b = y := ⟨_, rfl⟩
  rw [hx] at o1 o2 o3 hkl hc2
  rw [hy] at hc2
  obtain ⟨f, hf⟩ : ∃ f, ofV x = f := ⟨_, rfl⟩
  rw [hf] at o2 o3
  have HX := Lib.hid hx; have HY := Lib.hid hy; have HF := Lib.hid hf; have HO1 := Lib.hid o1; have HO2 := Lib.hid o2; have HC := Lib.hid hc1
  clear hx hy hf o1 o2 hc1
  rcases hc2 with ⟨h, rfl⟩ | ⟨h, rfl⟩ | ⟨rfl, rfl⟩
  · have d1 : decide (x < y) = true := by simpa using h
    have d2 : (x == y) = false := beq_eq_false_iff_ne.2 (by omega)
    have d3 : ((x : Int) == y) = false := beq_eq_false_iff_ne.2 (by omega)
    clear h
    go_enter Try.func7, Try.ntmps7
    go_wp2_with (first
      | (go_at_call 13; refine (awake01_any _).mono ?_; rintro e w5 ⟨rfl, hb⟩; replace HB := Lib.hid (below_then (w := w) (by repeat (first | exact HB.out | refine below_alloc_ ?_ _ | exact Below.refl _ _)) hb); clear hb)
      | (go_at_call 18; (have := HB0; clear this); refine (key_any b _ hb9).mono ?_; rintro e w1 ⟨rfl, rfl⟩; rw [HY.out])
      | (go_at_call 18; refine (key_any a _ ha).mono ?_; rintro e w1 ⟨rfl, rfl⟩; rw [HX.out]; have HB0 := trivial)
      | (go_at_call 20; refine (of_any _ _ hkl).mono ?_; rintro e w1 ⟨rfl, rfl⟩; rw [HF.out, HO1.out])
      | (go_at_call 16; refine (cmp_any _ _ _ ha hb9).mono ?_; rintro e w1 ⟨rfl, rfl⟩; rw [HC.out])
      | (go_at_call 27; refine (same_any _ _ _ o3 ha).mono ?_; rintro e w1 ⟨rfl, rfl⟩; rw [HO2.out]))
    go_ret
    exact ⟨rfl, HB.out⟩
  · have d1 : decide (x < y) = false := by simp; omega
    have d2 : (x == y) = false := beq_eq_false_iff_ne.2 (by omega)
    have d3 : ((x : Int) == y) = false := beq_eq_false_iff_ne.2 (by omega)
    clear h
    go_enter Try.func7, Try.ntmps7
    go_wp2_with (first
      | (go_at_call 13; refine (awake01_any _).mono ?_; rintro e w5 ⟨rfl, hb⟩; replace HB := Lib.hid (below_then (w := w) (by repeat (first | exact HB.out | refine below_alloc_ ?_ _ | exact Below.refl _ _)) hb); clear hb)
      | (go_at_call 18; (have := HB0; clear this); refine (key_any b _ hb9).mono ?_; rintro e w1 ⟨rfl, rfl⟩; rw [HY.out])
      | (go_at_call 18; refine (key_any a _ ha).mono ?_; rintro e w1 ⟨rfl, rfl⟩; rw [HX.out]; have HB0 := trivial)
      | (go_at_call 20; refine (of_any _ _ hkl).mono ?_; rintro e w1 ⟨rfl, rfl⟩; rw [HF.out, HO1.out])
      | (go_at_call 16; refine (cmp_any _ _ _ ha hb9).mono ?_; rintro e w1 ⟨rfl, rfl⟩; rw [HC.out])
      | (go_at_call 27; refine (same_any _ _ _ o3 ha).mono ?_; rintro e w1 ⟨rfl, rfl⟩; rw [HO2.out]))
    go_ret
    exact ⟨rfl, HB.out⟩
  · have d1 : decide (x < x) = false := by simp
    go_enter Try.func7, Try.ntmps7
    go_wp2_with (first
      | (go_at_call 13; refine (awake01_any _).mono ?_; rintro e w5 ⟨rfl, hb⟩; replace HB := Lib.hid (below_then (w := w) (by repeat (first | exact HB.out | refine below_alloc_ ?_ _ | exact Below.refl _ _)) hb); clear hb)
      | (go_at_call 18; (have := HB0; clear this); refine (key_any b _ hb9).mono ?_; rintro e w1 ⟨rfl, rfl⟩; rw [HY.out])
      | (go_at_call 18; refine (key_any a _ ha).mono ?_; rintro e w1 ⟨rfl, rfl⟩; rw [HX.out]; have HB0 := trivial)
      | (go_at_call 20; refine (of_any _ _ hkl).mono ?_; rintro e w1 ⟨rfl, rfl⟩; rw [HF.out, HO1.out])
      | (go_at_call 16; refine (cmp_any _ _ _ ha hb9).mono ?_; rintro e w1 ⟨rfl, rfl⟩; rw [HC.out])
      | (go_at_call 27; refine (same_any _ _ _ o3 ha).mono ?_; rintro e w1 ⟨rfl, rfl⟩; rw [HO2.out]))
    go_ret
    exact ⟨rfl, HB.out⟩
end Go.Proofs.Ytmnpmcfhmhkibaa
