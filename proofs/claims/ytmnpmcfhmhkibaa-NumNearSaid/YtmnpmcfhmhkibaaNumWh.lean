/- NumWhole: num.Floor, Ceil, and the walk. -/
import Derived.Test.YtmnpmcfhmhkibaaKeyG
import Derived.Test.YtmnpmcfhmhkibaaProdG
set_option linter.unusedSimpArgs false
set_option linter.unusedVariables false
namespace Go.Proofs.Ytmnpmcfhmhkibaa
open Go.RowKit Mo
set_option maxHeartbeats 1000000 in
theorem floor_any (b : Nat) (w : World) (hb : b < 18446744073709551616) : Calls Try.prog 29 #[.float .f64 b] w fun e w' => e = .returned (.tuple #[.int .i64 (prodV 1 b false), .int .i64 (prodE 1 b false)]) ∧ w = w' := by
  have e0 := f_ne_self hb
  cases hn : isNaN b
  · rw [hn] at e0
    obtain ⟨h1, h2, h3⟩ := whole_is b false hb hn
    have hr := fun w => run_floor b w h3
    generalize prodV 1 b false = V at *
    generalize prodE 1 b false = E at *
    generalize wholeW b false = g at *
    have HW := Lib.hid h1
    clear h1 h2 h3 hn
    go_enter Try.func29, Try.ntmps29
    go_wp2_with (first | (go_at_call 47; refine (whole_any _ _ _ _ HW.out).mono ?_; rintro e w1 ⟨rfl, rfl⟩) | (go_at_call 48; go_in))
    go_ret2
    exact ⟨rfl, rfl⟩
  · rw [hn] at e0
    obtain ⟨p1, p2⟩ := (show prodE 1 b false = 10 ∧ prodV 1 b false = 0 from prodE_nan 1 b false (.inl (by unfold isNaN at hn; simpa using hn)))
    rw [p1, p2]
    clear p1 p2 hn
    go_enter Try.func29, Try.ntmps29
    go_wp2
    go_ret2
    exact ⟨rfl, rfl⟩
set_option maxHeartbeats 1000000 in
theorem ceil_any (b : Nat) (w : World) (hb : b < 18446744073709551616) : Calls Try.prog 31 #[.float .f64 b] w fun e w' => e = .returned (.tuple #[.int .i64 (prodV 1 b true), .int .i64 (prodE 1 b true)]) ∧ w = w' := by
  have e0 := f_ne_self hb
  cases hn : isNaN b
  · rw [hn] at e0
    obtain ⟨h1, h2, h3⟩ := whole_is b true hb hn
    have hr := fun w => run_ceil b w h3
    generalize prodV 1 b true = V at *
    generalize prodE 1 b true = E at *
    generalize wholeW b true = g at *
    have HW := Lib.hid h1
    clear h1 h2 h3 hn
    go_enter Try.func31, Try.ntmps31
    go_wp2_with (first | (go_at_call 47; refine (whole_any _ _ _ _ HW.out).mono ?_; rintro e w1 ⟨rfl, rfl⟩) | (go_at_call 49; go_in))
    go_ret2
    exact ⟨rfl, rfl⟩
  · rw [hn] at e0
    obtain ⟨p1, p2⟩ := (show prodE 1 b true = 10 ∧ prodV 1 b true = 0 from prodE_nan 1 b true (.inl (by unfold isNaN at hn; simpa using hn)))
    rw [p1, p2]
    clear p1 p2 hn
    go_enter Try.func31, Try.ntmps31
    go_wp2
    go_ret2
    exact ⟨rfl, rfl⟩
theorem rfloor_any (b : Nat) (w : World) (hb : b < 18446744073709551616) : Calls Try.prog 30 #[.float .f64 b] w fun e w' => e = .returned (.tuple #[.int .i64 (prodV 1 b false), .int .i64 (prodE 1 b false)]) ∧ Below w.heap.size w w' := by
  have HB : Hid (Below w.heap.size w w) := Lib.hid (Below.refl _ _)
  go_enter Try.func30, Try.ntmps30
  go_wp2_with (go_at_call 24; refine (rproduct_any 1 _ false _ (by decide) (by decide) hb).mono ?_; rintro e w5 ⟨rfl, hb⟩; replace HB := Lib.hid (below_then (w := w) (by repeat (first | exact HB.out | refine below_alloc_ ?_ _ | exact Below.refl _ _)) hb); clear hb)
  go_ret2
  exact ⟨rfl, HB.out⟩
theorem rceil_any (b : Nat) (w : World) (hb : b < 18446744073709551616) : Calls Try.prog 32 #[.float .f64 b] w fun e w' => e = .returned (.tuple #[.int .i64 (prodV 1 b true), .int .i64 (prodE 1 b true)]) ∧ Below w.heap.size w w' := by
  have HB : Hid (Below w.heap.size w w) := Lib.hid (Below.refl _ _)
  go_enter Try.func32, Try.ntmps32
  go_wp2_with (go_at_call 24; refine (rproduct_any 1 _ true _ (by decide) (by decide) hb).mono ?_; rintro e w5 ⟨rfl, hb⟩; replace HB := Lib.hid (below_then (w := w) (by repeat (first | exact HB.out | refine below_alloc_ ?_ _ | exact Below.refl _ _)) hb); clear hb)
  go_ret2
  exact ⟨rfl, HB.out⟩
set_option maxHeartbeats 1000000 in
theorem numWhole_walk (w : World) (b : Nat) (wb : (Lit.float .f64 b).wf = true) :
    Calls Try.prog 11 #[.float .f64 b] w fun e w' => e = .returned (.bool true) ∧ Below w.heap.size w w' := by
  have hb9 := f64_wf wb
  clear wb
  have HB : Hid (Below w.heap.size w w) := Lib.hid (Below.refl _ _)
  obtain ⟨x, hx⟩ : ∃ x, prodV 1 b false = x := ⟨_, rfl⟩
  obtain ⟨y, hy⟩ : ∃ y, prodE 1 b false = y := ⟨_, rfl⟩
  obtain ⟨u, hu⟩ : ∃ u, prodV 1 b true = u := ⟨_, rfl⟩
  obtain ⟨v, hv⟩ : ∃ v, prodE 1 b true = v := ⟨_, rfl⟩
  have HX := Lib.hid hx; have HY := Lib.hid hy; have HU := Lib.hid hu; have HV := Lib.hid hv
  clear hx hy hu hv
  go_enter Try.func11, Try.ntmps11
  go_wp2_with (first
    | (go_at_call 13; refine (awake01_any _).mono ?_; rintro e w5 ⟨rfl, hb⟩; replace HB := Lib.hid (below_then (w := w) (by repeat (first | exact HB.out | refine below_alloc_ ?_ _ | exact Below.refl _ _)) hb); clear hb)
    | (go_at_call 29; refine (floor_any _ _ hb9).mono ?_; rintro e w1 ⟨rfl, rfl⟩; rw [HX.out, HY.out])
    | (go_at_call 31; refine (ceil_any _ _ hb9).mono ?_; rintro e w1 ⟨rfl, rfl⟩; rw [HU.out, HV.out])
    | (go_at_call 30; refine (rfloor_any _ _ hb9).mono ?_; rintro e w5 ⟨rfl, hb⟩; rw [HX.out, HY.out]; replace HB := Lib.hid (below_then (w := w) (by repeat (first | exact HB.out | refine below_alloc_ ?_ _ | exact Below.refl _ _)) hb); clear hb)
    | (go_at_call 32; refine (rceil_any _ _ hb9).mono ?_; rintro e w5 ⟨rfl, hb⟩; rw [HU.out, HV.out]; replace HB := Lib.hid (below_then (w := w) (by repeat (first | exact HB.out | refine below_alloc_ ?_ _ | exact Below.refl _ _)) hb); clear hb))
  go_ret
  exact ⟨rfl, HB.out⟩
end Go.Proofs.Ytmnpmcfhmhkibaa
