/- Leases in plays: the two laws. -/
import Derived.Test.YtajojpfenlafbaaLpP
import Derived.Test.YtajojpfenlafbaaLsW
set_option linter.unusedSimpArgs false
set_option linter.unusedVariables false
namespace Go.Proofs.Ytajojpfenlafbaa
open Go.RowKit Mo
set_option maxRecDepth 100000 in
set_option maxHeartbeats 2000000 in
theorem leaseStamps_walk (w : World) (t0 : Int) (wt : (Lit.int .i64 t0).wf = true) (sz : Int) (wz : (Lit.int .u8 sz).wf = true) (A : Option Addr) (c : Nat) (xs : List VTurn23) (hr : SlOk w 15 A c (xs.flatMap VTurn23.cells)) (hc : xs.length ≤ c) (hm : c ≤ maxLen) (hx : ∀ u_ ∈ xs, VTurn23.ok w u_) :
    Calls Try.prog 7 #[.int .i64 t0, .int .u8 sz, .slice A xs.length c] w fun e w' => e = .returned (.bool true) ∧ Below w.heap.size w w' := by
  have hr := Lib.hid (hr.reads (n := xs.length) (flatMap_len _ _ 15 (fun _ => rfl)) (by decide))
  have hml : xs.length ≤ 9223372036854775807 := by unfold maxLen at hm; omega
  have HX := Lib.hid hx; have HM := Lib.hid hml; have WT := Lib.hid wt; have WZ := Lib.hid wz
  clear hm hx wt wz hml
  go_enter Try.func7, Try.ntmps7
  go_wp2_with fail
  refine (awake23_any _).mono ?_
  rintro e w5 ⟨rfl, hb⟩
  have H5 := Lib.hid hb
  clear hb
  go_wp2_with fail
  refine (play_any w5 t0 WT.out sz WZ.out A c xs (hr.out.kp (S := fun _ => False) (.of_below H5.out) (fun _ _ h => h)) HM.out (fun u h => HX.out u h)).mono ?_
  rintro e w6 ⟨rfl, hb⟩
  have H6 := Lib.hid (below_then H5.out hb)
  clear hb
  go_wp2_with fail
  go_ret
  exact ⟨rfl, H6.out⟩
set_option maxRecDepth 100000 in
set_option maxHeartbeats 2000000 in
theorem leaseApart_walk (w : World) (t0 : Int) (wt : (Lit.int .i64 t0).wf = true) (sz : Int) (wz : (Lit.int .u8 sz).wf = true) (A : Option Addr) (c : Nat) (xs : List VTurn23) (hr : SlOk w 15 A c (xs.flatMap VTurn23.cells)) (hc : xs.length ≤ c) (hm : c ≤ maxLen) (hx : ∀ u_ ∈ xs, VTurn23.ok w u_) :
    Calls Try.prog 6 #[.int .i64 t0, .int .u8 sz, .slice A xs.length c] w fun e w' => e = .returned (.bool true) ∧ Below w.heap.size w w' := by
  have hr := Lib.hid (hr.reads (n := xs.length) (flatMap_len _ _ 15 (fun _ => rfl)) (by decide))
  have hml : xs.length ≤ 9223372036854775807 := by unfold maxLen at hm; omega
  have HX := Lib.hid hx; have HM := Lib.hid hml; have WT := Lib.hid wt; have WZ := Lib.hid wz
  clear hm hx wt wz
  go_enter Try.func6, Try.ntmps6
  go_wp2_with fail
  go_loopw [7] (fun si wr => ∃ k : Nat, k ≤ xs.length ∧ k ≤ 60 ∧ si = .int .i64 k ∧ wr = w) (fun si _ => xs.length - (intOf si).toNat)
  case atStart => exact ⟨0, Nat.zero_le _, by omega, rfl, rfl⟩
  case round =>
    obtain ⟨k, hk, hk6, rfl, rfl⟩ := hrel
    by_cases hlt : k < xs.length ∧ k < 60
    · obtain ⟨hlt, h60⟩ := hlt
      obtain ⟨ad, hA, hadb, hcell⟩ := hr.out.2 (by omega)
      subst hA
      have q14 := hcell (k * 15 + 14) _ ((flatMap_at xs VTurn23.cells 15 (fun _ => rfl) k 14 hlt (by omega)).trans (List.getElem?_eq_getElem (by exact (show 14 < 15 by omega))))
      simp only [VTurn23.cells, List.getElem_cons_zero, List.getElem_cons_succ] at q14
      replace q14 := cell_in _ 14 (by omega) q14
      generalize xs[k].give = gi at *
      cases gi
      · go_wp2_with fail
        go_roundw
        case rel => exact ⟨k + 1, by omega, by omega, by go_num, trivial⟩
        case measure => simp [intOf]; omega
      · go_wp2_with fail
        refine (awake23_any _).mono ?_
        rintro e w5 ⟨rfl, hb⟩
        have H5 := Lib.hid hb
        clear hb
        go_wp2_with fail
        go_ret
        exact ⟨rfl, H5.out⟩
    · rcases (show decide (k < xs.length) = false ∨ (k < xs.length ∧ decide ((k : Int) < 60) = false) by simp; omega) with hd | ⟨hd0, hd⟩
      all_goals
        go_wp2_with fail
        refine (awake23_any _).mono ?_
        rintro e w5 ⟨rfl, hb⟩
        have H5 := Lib.hid hb
        clear hb
        go_wp2_with fail
        refine (play_any w5 t0 WT.out sz WZ.out A c xs (hr.out.kp (S := fun _ => False) (.of_below H5.out) (fun _ _ h => h)) HM.out (fun u h => HX.out u h)).mono ?_
        rintro e w6 ⟨rfl, hb⟩
        have H6 := Lib.hid (below_then H5.out hb)
        clear hb
        go_wp2_with fail
        go_ret
        exact ⟨rfl, H6.out⟩
end Go.Proofs.Ytajojpfenlafbaa
