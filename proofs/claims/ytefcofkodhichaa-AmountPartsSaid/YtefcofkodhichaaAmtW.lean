/- The chapter's example of amounts. -/
import Derived.Test.YtefcofkodhichaaAmtS
import Derived.Test.YtefcofkodhichaaAmtR
set_option linter.unusedSimpArgs false
set_option linter.unusedVariables false
namespace Go.Proofs.Ytefcofkodhichaa
open Go.RowKit Mo
theorem afee_lit (w : World) : Calls Try.prog 22 #[.int .i64 199, .float .f64 4576918229304087675] w fun e w' => e = .returned (.tuple #[.int .i64 1, .int .i64 0]) ∧ w = w' :=
  fee_any 199 4576918229304087675 1 0 w (.inr (.inr ⟨by decide, by decide, by decide +kernel, by decide +kernel⟩)) (by decide) (by decide) (by decide)
theorem arate_lit (w : World) : Calls Try.prog 24 #[.float .f64 4611686018427387904] w fun e w' => e = .returned (.int .i64 43) ∧ w = w' := by
  have := arate_any 4611686018427387904 w (by decide)
  have e1 : errR (rateOk 4611686018427387904) = 43 := by decide
  rw [e1] at this
  exact this
theorem acheck_lit (w : World) : Calls Try.prog 16 #[.int .i64 (-1)] w fun e w' => e = .returned (.int .i64 40) ∧ w = w' := acheck_any (-1) w
theorem asub_lit (w : World) : Calls Try.prog 13 #[.int .i64 1, .int .i64 2] w fun e w' => e = .returned (.tuple #[.int .i64 0, .int .i64 41]) ∧ w = w' :=
  sub_any 1 2 0 41 w (.inr (.inr (.inl ⟨by decide, by decide, by decide, rfl, rfl⟩)))
theorem aadd_lit (w : World) : Calls Try.prog 11 #[.int .i64 3, .int .i64 4] w fun e w' => e = .returned (.tuple #[.int .i64 7, .int .i64 0]) ∧ Below w.heap.size w w' := by
  have := add_any 3 4 w (by decide) (by decide)
  have e1 : totV [3, 4] = 7 := by decide
  have e2 : errA (totOk [3, 4]) = 0 := by decide
  rw [e1, e2] at this
  exact this
theorem asplit_lit (w : World) : Calls Try.prog 20 #[.int .i64 7, .int .i64 3] w fun e w' => ∃ A c, e = .returned (.tuple #[.slice A 3 c, .int .i64 0]) ∧ Li w' A c [3, 2, 2] ∧ Below w.heap.size w w' := by
  refine (split_any 7 3 w (by decide) (by decide) (by decide) (by decide)).mono ?_
  rintro e w' (⟨h, _⟩ | ⟨_, h, _⟩ | ⟨_, _, _, A, c, rfl, hl, hb⟩)
  · exact absurd h (by decide)
  · omega
  · have e1 : splitL 7 (3 : Int).toNat = [3, 2, 2] := by decide
    rw [e1] at hl ⊢
    exact ⟨A, c, rfl, hl, hb⟩
set_option maxHeartbeats 1000000 in
theorem awake04_any (w : World) : Calls Try.prog 15 #[] w fun e w' => e = .returned (.bool true) ∧ Below w.heap.size w w' := by
  have HB : Hid (Below w.heap.size w w) := Lib.hid (Below.refl _ _)
  have h123 : ∀ u ∈ [(1 : Int), 2, 3], (Lit.int .i64 u).wf = true := by decide
  go_enter Try.func15, Try.ntmps15
  go_wp2_with (first
    | (go_at_call 11; refine (aadd_lit _).mono ?_; rintro e w5 ⟨rfl, hb⟩; replace HB := Lib.hid (below_then (w := w) (by repeat (first | exact HB.out | refine below_alloc_ ?_ _ | exact Below.refl _ _)) hb); clear hb)
    | (go_at_call 13; refine (asub_lit _).mono ?_; rintro e w1 ⟨rfl, rfl⟩)
    | (go_at_call 20; refine (asplit_lit _).mono ?_; rintro e w6 ⟨A, c, rfl, hli, hb⟩; (obtain ⟨ad, u, rfl, hadb, hu, hcell⟩ := hli.rd.at_ (k := 0) (by decide)); (obtain rfl : u = .int .i64 3 := by simp at hu; rw [← hu]); (rw [show ad.add 0 = ad by cases ad; simp [Addr.add]] at hcell); clear hu hli; replace HB := Lib.hid (below_then (w := w) (by repeat (first | exact HB.out | refine below_alloc_ ?_ _ | exact Below.refl _ _)) hb); clear hb)
    | (go_at_call 22; refine (afee_lit _).mono ?_; rintro e w1 ⟨rfl, rfl⟩)
    | (go_at_call 18; refine (total_three _ _ _ (by simp) 1 2 3 6 0 (by decide) (by decide) h123).mono ?_; rintro e w1 ⟨rfl, rfl⟩)
    | (go_at_call 16; refine (acheck_lit _).mono ?_; rintro e w1 ⟨rfl, rfl⟩)
    | (go_at_call 24; refine (arate_lit _).mono ?_; rintro e w1 ⟨rfl, rfl⟩))
  all_goals trace_state
  go_ret
  exact ⟨rfl, by repeat (first | exact HB.out | refine below_alloc_ ?_ _)⟩
end Go.Proofs.Ytefcofkodhichaa
