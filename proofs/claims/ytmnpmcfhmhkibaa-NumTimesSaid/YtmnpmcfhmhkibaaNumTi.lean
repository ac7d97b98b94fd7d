/- NumTimes: the walk. -/
import Derived.Test.YtmnpmcfhmhkibaaKeyW
import Derived.Test.YtmnpmcfhmhkibaaProdG
set_option linter.unusedSimpArgs false
set_option linter.unusedVariables false
namespace Go.Proofs.Ytmnpmcfhmhkibaa
open Go.RowKit Mo
set_option maxHeartbeats 1000000 in
theorem numTimes_walk (w : World) (n : Int) (wn : (Lit.int .i64 n).wf = true) (b : Nat) (wb : (Lit.float .f64 b).wf = true) :
    Calls Try.prog 5 #[.int .i64 n, .float .f64 b] w fun e w' => e = .returned (.bool true) ∧ Below w.heap.size w w' := by
  obtain ⟨n1, n2⟩ := i64_wf wn
  have hb9 := f64_wf wb
  clear wn wb
  have HB : Hid (Below w.heap.size w w) := Lib.hid (Below.refl _ _)
  obtain ⟨x, hx⟩ : ∃ x, prodV n b false = x := ⟨_, rfl⟩
  obtain ⟨y, hy⟩ : ∃ y, prodE n b false = y := ⟨_, rfl⟩
  have HX := Lib.hid hx; have HY := Lib.hid hy
  clear hx hy
  go_enter Try.func5, Try.ntmps5
  go_wp2_with (first
    | (go_at_call 13; refine (awake01_any _).mono ?_; rintro e w5 ⟨rfl, hb⟩; replace HB := Lib.hid (below_then (w := w) (by repeat (first | exact HB.out | refine below_alloc_ ?_ _ | exact Below.refl _ _)) hb); clear hb)
    | (go_at_call 23; refine (times_any n _ _ n1 n2 hb9).mono ?_; rintro e w1 ⟨rfl, rfl⟩; rw [HX.out, HY.out])
    | (go_at_call 24; refine (rproduct_any n _ false _ n1 n2 hb9).mono ?_; rintro e w5 ⟨rfl, hb⟩; rw [HX.out, HY.out]; replace HB := Lib.hid (below_then (w := w) (by repeat (first | exact HB.out | refine below_alloc_ ?_ _ | exact Below.refl _ _)) hb); clear hb))
  go_ret
  exact ⟨rfl, HB.out⟩
end Go.Proofs.Ytmnpmcfhmhkibaa
