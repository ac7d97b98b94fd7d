/- NumTells: the walk. -/
import Derived.Test.YtmnpmcfhmhkibaaKeyR
set_option linter.unusedSimpArgs false
set_option linter.unusedVariables false
namespace Go.Proofs.Ytmnpmcfhmhkibaa
open Go.RowKit Mo
set_option maxHeartbeats 1000000 in
theorem numTells_walk (w : World) (a : Nat) (wa : (Lit.float .f64 a).wf = true) (b : Nat) (wb : (Lit.float .f64 b).wf = true) :
    Calls Try.prog 3 #[.float .f64 a, .float .f64 b] w fun e w' => e = .returned (.bool true) ∧ Below w.heap.size w w' := by
  have ha := f64_wf wa
  have hb9 := f64_wf wb
  clear wa wb
  have HB : Hid (Below w.heap.size w w) := Lib.hid (Below.refl _ _)
  obtain ⟨x, hx⟩ : ∃ x, cls a = x := ⟨_, rfl⟩
  obtain ⟨y, hy⟩ : ∃ y, cmpN a b = y := ⟨_, rfl⟩
  obtain ⟨z, hz⟩ : ∃ z, keyN a = z := ⟨_, rfl⟩
  have HX := Lib.hid hx; have HY := Lib.hid hy; have HZ := Lib.hid hz
  clear hx hy hz
  go_enter Try.func3, Try.ntmps3
  go_wp2_with (first
    | (go_at_call 13; refine (awake01_any _).mono ?_; rintro e w5 ⟨rfl, hb⟩; replace HB := Lib.hid (below_then (w := w) (by repeat (first | exact HB.out | refine below_alloc_ ?_ _ | exact Below.refl _ _)) hb); clear hb)
    | (go_at_call 14; refine (class_any _ _ ha).mono ?_; rintro e w1 ⟨rfl, rfl⟩; rw [HX.out])
    | (go_at_call 15; refine (rcls_any _ _ ha).mono ?_; rintro e w1 ⟨rfl, rfl⟩; rw [HX.out])
    | (go_at_call 16; refine (cmp_any _ _ _ ha hb9).mono ?_; rintro e w1 ⟨rfl, rfl⟩; rw [HY.out])
    | (go_at_call 17; refine (rcmp_any _ _ _ ha hb9).mono ?_; rintro e w1 ⟨rfl, rfl⟩; rw [HY.out])
    | (go_at_call 18; refine (key_any _ _ ha).mono ?_; rintro e w1 ⟨rfl, rfl⟩; rw [HZ.out])
    | (go_at_call 19; refine (rkey_any _ _ ha).mono ?_; rintro e w1 ⟨rfl, rfl⟩; rw [HZ.out]))
  go_ret
  exact ⟨rfl, HB.out⟩
end Go.Proofs.Ytmnpmcfhmhkibaa
