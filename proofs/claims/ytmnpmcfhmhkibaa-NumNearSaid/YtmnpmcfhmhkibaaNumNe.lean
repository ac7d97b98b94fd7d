/- NumNear: the walk. -/
import Derived.Test.YtmnpmcfhmhkibaaFloatJ
import Derived.Test.YtmnpmcfhmhkibaaNumWh
import Derived.IntWalk
set_option linter.unusedSimpArgs false
set_option linter.unusedVariables false
namespace Go.Proofs.Ytmnpmcfhmhkibaa
open Go.RowKit Mo
set_option maxHeartbeats 1000000 in
theorem numNear_walk (w : World) (b : Nat) (wb : (Lit.float .f64 b).wf = true) :
    Calls Try.prog 12 #[.float .f64 b] w fun e w' => e = .returned (.bool true) ∧ Below w.heap.size w w' := by
  have hb9 := f64_wf wb
  clear wb
  have HB : Hid (Below w.heap.size w w) := Lib.hid (Below.refl _ _)
  have law := fun h1 h2 => near_law b hb9 h1 h2
  have bx := prodV_bnd 1 b false
  have bu := prodV_bnd 1 b true
  have c1 := prodE_cases 1 b false
  have c2 := prodE_cases 1 b true
  obtain ⟨x, hx⟩ : ∃ x, prodV 1 b false = x := ⟨_, rfl⟩
  obtain ⟨y, hy⟩ : ∃ y, prodE 1 b false = y := ⟨_, rfl⟩
  obtain ⟨u, hu⟩ : ∃ u, prodV 1 b true = u := ⟨_, rfl⟩
  obtain ⟨v, hv⟩ : ∃ v, prodE 1 b true = v := ⟨_, rfl⟩
  rw [hy] at c1; rw [hv] at c2; rw [hx, hy, hu, hv] at law; rw [hx] at bx; rw [hu] at bu
  have HX := Lib.hid hx; have HY := Lib.hid hy; have HU := Lib.hid hu; have HV := Lib.hid hv
  clear hx hy hu hv
  have hc1 : ∀ w : World, (convert 2 22 (.int .i64 x)).run Try.prog w = .ok (.float .f64 (FloatKind.f64.nearest x)) w := fun w => (run_convert_int_float (P := Try.prog) w 2 22 .i64 .f64 _ (by kernel_rfl) (by kernel_rfl))
  have hc2 : ∀ w : World, (convert 2 22 (.int .i64 u)).run Try.prog w = .ok (.float .f64 (FloatKind.f64.nearest u)) w := fun w => (run_convert_int_float (P := Try.prog) w 2 22 .i64 .f64 _ (by kernel_rfl) (by kernel_rfl))
  generalize FloatKind.f64.nearest x = fx at *
  generalize FloatKind.f64.nearest u = fu at *
  rcases c1 with rfl | rfl | rfl <;> rcases c2 with rfl | rfl | rfl
  all_goals first | (obtain ⟨n1, n2, n3, n4, n5, hl⟩ := law rfl rfl) | clear law hc1 hc2
  · have o1 := f_eq n2 hb9
    have o2 := f_lt n2 hb9
    have o3 := f_lt hb9 n3
    rw [n1, n4] at o1 o2
    rw [n1, n5] at o3
    simp only [Bool.not_false, Bool.true_and] at o1 o2 o3
    clear law n1 n2 n3 n4 n5
    rcases hl with ⟨rfl, hk⟩ | ⟨hne, hs, hk1, hk2⟩
    · rw [decide_eq_true hk] at o1
      clear o2 o3 hk
      go_enter Try.func12, Try.ntmps12
      go_wp2_with (first
        | (go_at_call 13; refine (awake01_any _).mono ?_; rintro e w5 ⟨rfl, hb⟩; replace HB := Lib.hid (below_then (w := w) (by repeat (first | exact HB.out | refine below_alloc_ ?_ _ | exact Below.refl _ _)) hb); clear hb)
        | (go_at_call 29; refine (floor_any _ _ hb9).mono ?_; rintro e w1 ⟨rfl, rfl⟩; rw [HX.out, HY.out])
        | (go_at_call 31; refine (ceil_any _ _ hb9).mono ?_; rintro e w1 ⟨rfl, rfl⟩; rw [HU.out, HV.out]))
      go_ret
      exact ⟨rfl, HB.out⟩
    · rw [decide_eq_true hk1] at o2
      rw [decide_eq_true hk2] at o3
      have hd : (x == u) = false := by simpa using hne
      have hw : IntKind.i64.wrap (u - 1) = x := by rw [hs]; exact IntWalk.i64_in _ (by omega)
      clear o1 hk1 hk2
      go_enter Try.func12, Try.ntmps12
      go_wp2_with (first
        | (go_at_call 13; refine (awake01_any _).mono ?_; rintro e w5 ⟨rfl, hb⟩; replace HB := Lib.hid (below_then (w := w) (by repeat (first | exact HB.out | refine below_alloc_ ?_ _ | exact Below.refl _ _)) hb); clear hb)
        | (go_at_call 29; refine (floor_any _ _ hb9).mono ?_; rintro e w1 ⟨rfl, rfl⟩; rw [HX.out, HY.out])
        | (go_at_call 31; refine (ceil_any _ _ hb9).mono ?_; rintro e w1 ⟨rfl, rfl⟩; rw [HU.out, HV.out]))
      go_ret
      exact ⟨rfl, HB.out⟩
  all_goals
    go_enter Try.func12, Try.ntmps12
    go_wp2_with (first
      | (go_at_call 13; refine (awake01_any _).mono ?_; rintro e w5 ⟨rfl, hb⟩; replace HB := Lib.hid (below_then (w := w) (by repeat (first | exact HB.out | refine below_alloc_ ?_ _ | exact Below.refl _ _)) hb); clear hb)
      | (go_at_call 29; refine (floor_any _ _ hb9).mono ?_; rintro e w1 ⟨rfl, rfl⟩; rw [HX.out, HY.out])
      | (go_at_call 31; refine (ceil_any _ _ hb9).mono ?_; rintro e w1 ⟨rfl, rfl⟩; rw [HU.out, HV.out]))
    go_ret
    exact ⟨rfl, HB.out⟩
end Go.Proofs.Ytmnpmcfhmhkibaa
