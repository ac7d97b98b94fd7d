/- NumTurns: the walk. -/
import Derived.Test.YtmnpmcfhmhkibaaKeyW
set_option linter.unusedSimpArgs false
set_option linter.unusedVariables false
namespace Go.Proofs.Ytmnpmcfhmhkibaa
open Go.RowKit Mo
theorem cmp_self (a : Nat) : cmpN a a = 0 := by unfold cmpN; simp
theorem cmp_is (a b : Nat) : (keyN a < keyN b ∧ cmpN a b = -1) ∨ (keyN b < keyN a ∧ cmpN a b = 1) ∨ (keyN a = keyN b ∧ cmpN a b = 0) := by
  unfold cmpN
  rcases (show keyN a < keyN b ∨ keyN b < keyN a ∨ keyN a = keyN b by omega) with g | g | g
  · left; exact ⟨g, if_pos g⟩
  · right; left; exact ⟨g, by rw [if_neg (by omega), if_pos g]⟩
  · right; right; exact ⟨g, by rw [if_neg (by omega), if_neg (by omega)]⟩
theorem turn_cases (a b c : Nat) : ∃ x y z u : Int, cmpN a b = x ∧ cmpN b c = y ∧ cmpN a c = z ∧ cmpN b a = u ∧
    ((x = -1 ∧ u = 1 ∧ y = -1 ∧ z = -1) ∨ (x = -1 ∧ u = 1 ∧ y = 0 ∧ z = -1) ∨ (x = -1 ∧ u = 1 ∧ y = 1 ∧ (z = -1 ∨ z = 0 ∨ z = 1)) ∨ (x = 0 ∧ u = 0 ∧ y = -1 ∧ z = -1) ∨ (x = 0 ∧ u = 0 ∧ y = 0 ∧ z = 0) ∨ (x = 0 ∧ u = 0 ∧ y = 1 ∧ z = 1) ∨ (x = 1 ∧ u = -1 ∧ y = -1 ∧ (z = -1 ∨ z = 0 ∨ z = 1)) ∨ (x = 1 ∧ u = -1 ∧ y = 0 ∧ z = 1) ∨ (x = 1 ∧ u = -1 ∧ y = 1 ∧ z = 1)) := by
  refine ⟨_, _, _, _, rfl, rfl, rfl, rfl, ?_⟩
  rcases cmp_is a b with ⟨h1, e1⟩ | ⟨h1, e1⟩ | ⟨h1, e1⟩ <;> rcases cmp_is b a with ⟨h2, e2⟩ | ⟨h2, e2⟩ | ⟨h2, e2⟩ <;> first | (exfalso; omega) | skip
  all_goals rcases cmp_is b c with ⟨h3, e3⟩ | ⟨h3, e3⟩ | ⟨h3, e3⟩ <;> rcases cmp_is a c with ⟨h4, e4⟩ | ⟨h4, e4⟩ | ⟨h4, e4⟩ <;> first | (exfalso; omega) | (rw [e1, e2, e3, e4]; decide)
set_option maxHeartbeats 2000000 in
theorem numTurns_walk (w : World) (a : Nat) (wa : (Lit.float .f64 a).wf = true) (b : Nat) (wb : (Lit.float .f64 b).wf = true) (c : Nat) (wc : (Lit.float .f64 c).wf = true) :
    Calls Try.prog 8 #[.float .f64 a, .float .f64 b, .float .f64 c] w fun e w' => e = .returned (.bool true) ∧ Below w.heap.size w w' := by
  have ha := f64_wf wa
  have hb9 := f64_wf wb
  have hc9 := f64_wf wc
  clear wa wb wc
  have HB : Hid (Below w.heap.size w w) := Lib.hid (Below.refl _ _)
  have HS := Lib.hid (cmp_self a)
  obtain ⟨x, y, z, u, h1, h2, h3, h4, h⟩ := turn_cases a b c
  have H1 := Lib.hid h1; have H2 := Lib.hid h2; have H3 := Lib.hid h3; have H4 := Lib.hid h4; clear h1 h2 h3 h4
  rcases h with ⟨rfl, rfl, rfl, rfl⟩ | ⟨rfl, rfl, rfl, rfl⟩ | ⟨rfl, rfl, rfl, rfl | rfl | rfl⟩ | ⟨rfl, rfl, rfl, rfl⟩ | ⟨rfl, rfl, rfl, rfl⟩ | ⟨rfl, rfl, rfl, rfl⟩ | ⟨rfl, rfl, rfl, rfl | rfl | rfl⟩ | ⟨rfl, rfl, rfl, rfl⟩ | ⟨rfl, rfl, rfl, rfl⟩
  all_goals
    go_enter Try.func8, Try.ntmps8
    go_wp2_with (first
      | (go_at_call 13; refine (awake01_any _).mono ?_; rintro e w5 ⟨rfl, hb⟩; replace HB := Lib.hid (below_then (w := w) (by repeat (first | exact HB.out | refine below_alloc_ ?_ _ | exact Below.refl _ _)) hb); clear hb)
      | (go_at_call 16; refine (cmp_any _ _ _ (by first | exact ha | exact hb9 | exact hc9) (by first | exact ha | exact hb9 | exact hc9)).mono ?_; rintro e w1 ⟨rfl, rfl⟩; first | rw [HS.out] | rw [H1.out] | rw [H2.out] | rw [H3.out] | rw [H4.out]))
    go_ret
    exact ⟨rfl, HB.out⟩
end Go.Proofs.Ytmnpmcfhmhkibaa
