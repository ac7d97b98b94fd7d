/- The chapter's example of stamps. -/
import Derived.Test.YtkjlhhdenebbiaaStampA
set_option linter.unusedSimpArgs false
set_option linter.unusedVariables false
namespace Go.Proofs.Ytkjlhhdenebbiaa
open Go.RowKit

theorem reads_nil (w : World) (B : Nat) : Reads w B 1 none 0 [] := ⟨by simp, fun h => absurd h (by omega)⟩

set_option maxHeartbeats 1000000 in
theorem awake10_any (w : World) : Calls Try.prog 8 #[] w fun e w' => e = .returned (.bool true) ∧ Below w.heap.size w w' := by
  go_enter Try.func8, Try.ntmps8
  go_wp2_with (go_at_call 7; refine (new_any _).mono ?_; rintro e w1 ⟨rfl, rfl⟩)
  have HB0 := Lib.hid (Blk.new w 46 #[.int .i64 0])
  have HK0 := Lib.hid ((Keeps.refl (fun _ => False) w).alloc (.cells #[.int .i64 0] 46))
  refine (next_is w.heap.size 0 5 9 none [] 0 _ (by omega) (by omega) (by omega) HB0.out (reads_nil _ _) (by simp) 9 (by decide) (by omega) 10 0 10 (by decide) (by decide) (by decide)).mono ?_
  rintro e w1 ⟨rfl, hb1, hk1⟩
  have HB1 := Lib.hid hb1; have HK1 := Lib.hid (HK0.out.base hk1 (fun i h1 h2 => by omega)); clear HB0 HK0 hb1 hk1
  go_wp2_with fail
  have HB2 := Lib.hid (HB1.out.alloc (.cells #[.int .i64 20, .int .i64 3] 2)); have HK2 := Lib.hid (HK1.out.alloc (.cells #[.int .i64 20, .int .i64 3] 2))
  have hr : Reads (w1.alloc (.cells #[.int .i64 20, .int .i64 3] 2)) (w1.alloc (.cells #[.int .i64 20, .int .i64 3] 2)).heap.size 1 (some ⟨w1.heap.size, 0, none⟩) [(20 : Int), 3].length (([20, 3] : List Int).map (Value.int .i64)) :=
    ⟨rfl, fun _ => ⟨_, rfl, by simp, fun j u hu => by
      rw [Addr.add_lit, World.cell?_alloc_new]
      match j, hu with
      | 0, hu => simpa using hu
      | 1, hu => simpa using hu
      | j + 2, hu => simp at hu⟩⟩
  refine (next_is w.heap.size 10 1 2 (some ⟨w1.heap.size, 0, none⟩) [20, 3] 2 _ (by omega) (by omega) (by omega) HB2.out hr (by simp) 20 (by decide) (by omega) 21 0 21 (by decide) (by decide) (by decide)).mono ?_
  rintro e w2 ⟨rfl, hb1, hk1⟩
  have HB3 := Lib.hid hb1; have HK3 := Lib.hid (HK2.out.base hk1 (fun i h1 h2 => by omega)); clear HB1 HK1 HB2 HK2 hb1 hk1 hr
  go_wp2_with fail
  refine (keep_ok w.heap.size 21 30 _ HB3.out (by omega) (by omega) 30 (by decide)).mono ?_
  rintro e w3 ⟨rfl, hb1, hk1⟩
  have HB4 := Lib.hid hb1; have HK4 := Lib.hid (HK3.out.base hk1 (fun i h1 h2 => by omega)); clear HB3 HK3 hb1 hk1
  go_wp2_with fail
  refine (keep_ok w.heap.size 30 25 _ HB4.out (by omega) (by omega) 30 (by decide)).mono ?_
  rintro e w4 ⟨rfl, hb1, hk1⟩
  have HB5 := Lib.hid hb1; have HK5 := Lib.hid (HK4.out.base hk1 (fun i h1 h2 => by omega)); clear HB4 HK4 hb1 hk1
  go_wp2_with (first | (go_at_call 15; go_in) | (go_at_call 21; go_in) | (go_at_call 17; go_in) | (go_at_call 22; go_in) | (go_at_call 13; go_must (refine (last_any w.heap.size 30 _ (by repeat (first | exact HB5.out | refine Blk.alloc ?_ _))).mono ?_); rintro e w5 ⟨rfl, rfl⟩))
  go_ret
  exact ⟨rfl, Keeps.below (by repeat (first | exact HK5.out | refine Keeps.alloc ?_ _))⟩
end Go.Proofs.Ytkjlhhdenebbiaa
