/- Leases: the chapter's example. -/
import Derived.Test.YtajojpfenlafbaaLsT
set_option linter.unusedSimpArgs false
set_option linter.unusedVariables false
namespace Go.Proofs.Ytajojpfenlafbaa
open Go.RowKit Mo
set_option maxRecDepth 100000 in
set_option maxHeartbeats 2000000 in
theorem awake23_any (w : World) : Calls Try.prog 10 #[] w fun e w' => e = .returned (.bool true) ∧ Below w.heap.size w w' := by
  have n01 : w.heap.size ≠ w.heap.size + 1 := by omega
  have n02 : w.heap.size ≠ w.heap.size + 1 + 1 := by omega
  have n12 : w.heap.size + 1 ≠ w.heap.size + 1 + 1 := by omega
  go_enter Try.func10, Try.ntmps10
  go_wp2_with (first | (go_at_call 20; refine (newVoter_any _).mono ?_; rintro e w1 ⟨rfl, rfl⟩) | (go_at_call 8; refine (newHolder_ok 3 _ (by decide) (by decide)).mono ?_; rintro e w1 ⟨rfl, rfl⟩) | (go_at_call 9; refine (new_any _).mono ?_; rintro e w1 ⟨rfl, rfl⟩))
  have V := Lib.hid (((Blk.new w 80 #[.int .i64 0, .int .i64 0]).alloc (.cells (hcells 3 [0, 0, 0, 0, 0]) 72)).alloc (.cells #[.int .i64 0] 74))
  have H := Lib.hid ((Blk.new' (w := w.alloc (.cells #[.int .i64 0, .int .i64 0] 80)) (t := 72) (cs := hcells 3 [0, 0, 0, 0, 0]) (n := w.heap.size + 1) (by simp)).alloc (.cells #[.int .i64 0] 74))
  have S := Lib.hid (Blk.new' (w := (w.alloc (.cells #[.int .i64 0, .int .i64 0] 80)).alloc (.cells (hcells 3 [0, 0, 0, 0, 0]) 72)) (t := 74) (cs := #[.int .i64 0]) (n := w.heap.size + 1 + 1) (by simp))
  have HB : Hid (Below w.heap.size w (((w.alloc (.cells #[.int .i64 0, .int .i64 0] 80)).alloc (.cells (hcells 3 [0, 0, 0, 0, 0]) 72)).alloc (.cells #[.int .i64 0] 74))) := Lib.hid (by repeat (first | exact Below.refl _ _ | refine below_alloc_ ?_ _ | refine Below.drew ?_))
  refine (grant_any w.heap.size 0 0 10 14 1 100 110 0 1 110 _ V.out (by unfold GrIs; decide)).mono ?_
  rintro e w3 ⟨rfl, hb, hk⟩
  replace V := Lib.hid hb
  replace H := Lib.hid (H.out.keeps hk (by exact n01.symm))
  replace S := Lib.hid (S.out.keeps hk (by exact n02.symm))
  replace HB := Lib.hid (below_kp HB.out hk (Nat.le_refl _))
  clear hb hk
  go_wp2_with fail
  refine (grant_any w.heap.size 1 110 110 114 2 5 0 241 1 110 _ V.out (by unfold GrIs; decide)).mono ?_
  rintro e w4 ⟨rfl, hb, hk⟩
  replace V := Lib.hid hb
  replace H := Lib.hid (H.out.keeps hk (by exact n01.symm))
  replace S := Lib.hid (S.out.keeps hk (by exact n02.symm))
  replace HB := Lib.hid (below_kp HB.out hk (Nat.le_refl _))
  clear hb hk
  go_wp2_with fail
  refine (grant_any w.heap.size 1 110 111 115 2 5 116 0 2 116 _ V.out (by unfold GrIs; decide)).mono ?_
  rintro e w5 ⟨rfl, hb, hk⟩
  replace V := Lib.hid hb
  replace H := Lib.hid (H.out.keeps hk (by exact n01.symm))
  replace S := Lib.hid (S.out.keeps hk (by exact n02.symm))
  replace HB := Lib.hid (below_kp HB.out hk (Nat.le_refl _))
  clear hb hk
  go_wp2_with fail
  refine (heard_ok (w.heap.size + 1) 3 0 [0, 0, 0, 0, 0] 110 _ (by decide) (by decide) (by decide) (by decide) (by decide) H.out).mono ?_
  rintro e w6 ⟨rfl, hb, hk⟩
  replace H : Hid (Blk w6 (w.heap.size + 1) 72 (hcells 3 [110, 0, 0, 0, 0])) := Lib.hid hb
  replace V := Lib.hid (V.out.keeps hk (by exact n01))
  replace S := Lib.hid (S.out.keeps hk (by exact n12.symm))
  replace HB := Lib.hid (below_kp HB.out hk (by omega))
  clear hb hk
  go_wp2_with fail
  refine (until_any (w.heap.size + 1) 3 [110, 0, 0, 0, 0] _ (by decide) (by decide) (by decide) H.out).mono ?_
  rintro e w7 ⟨rfl, hb⟩
  rw [show unt 3 [110, 0, 0, 0, 0] = 0 by decide]
  replace V := Lib.hid (Blk.below V.out hb V.out.lt)
  replace H := Lib.hid (Blk.below H.out hb H.out.lt)
  replace S := Lib.hid (Blk.below S.out hb S.out.lt)
  replace HB := Lib.hid (below_then HB.out hb)
  clear hb
  go_wp2_with fail
  refine (heard_ok (w.heap.size + 1) 3 2 [110, 0, 0, 0, 0] 90 _ (by decide) (by decide) (by decide) (by decide) (by decide) H.out).mono ?_
  rintro e w8 ⟨rfl, hb, hk⟩
  replace H : Hid (Blk w8 (w.heap.size + 1) 72 (hcells 3 [110, 0, 90, 0, 0])) := Lib.hid hb
  replace V := Lib.hid (V.out.keeps hk (by exact n01))
  replace S := Lib.hid (S.out.keeps hk (by exact n12.symm))
  replace HB := Lib.hid (below_kp HB.out hk (by omega))
  clear hb hk
  go_wp2_with fail
  refine (hstamp_any (w.heap.size + 1) (w.heap.size + 1 + 1) 3 0 [110, 0, 90, 0, 0] 0 80 87 [] none 0 88 0 88 90 _ (by decide) (by decide) (by decide) H.out S.out rfl (by decide) (reads_nil _ _) n12.symm (by decide) (by decide) (by unfold StIs; decide)).mono ?_
  rintro e w9 ⟨rfl, hb, hk⟩
  replace S := Lib.hid hb
  replace V := Lib.hid (V.out.keeps hk (by exact n02))
  replace H := Lib.hid (H.out.keeps hk (by exact n12))
  replace HB := Lib.hid (below_kp HB.out hk (by omega))
  clear hb hk
  go_wp2_with fail
  refine (hstamp_any (w.heap.size + 1) (w.heap.size + 1 + 1) 3 0 [110, 0, 90, 0, 0] 88 80 89 [] none 0 0 244 88 90 _ (by decide) (by decide) (by decide) H.out S.out rfl (by decide) (reads_nil _ _) n12.symm (by decide) (by decide) (by unfold StIs; decide)).mono ?_
  rintro e w10 ⟨rfl, hb, hk⟩
  replace S := Lib.hid hb
  replace V := Lib.hid (V.out.keeps hk (by exact n02))
  replace H := Lib.hid (H.out.keeps hk (by exact n12))
  replace HB := Lib.hid (below_kp HB.out hk (by omega))
  clear hb hk
  go_wp2_with fail
  refine (until_any (w.heap.size + 1) 3 [110, 0, 90, 0, 0] _ (by decide) (by decide) (by decide) H.out).mono ?_
  rintro e w11 ⟨rfl, hb⟩
  rw [show unt 3 [110, 0, 90, 0, 0] = 90 by decide]
  replace V := Lib.hid (Blk.below V.out hb V.out.lt)
  replace H := Lib.hid (Blk.below H.out hb H.out.lt)
  replace S := Lib.hid (Blk.below S.out hb S.out.lt)
  replace HB := Lib.hid (below_then HB.out hb)
  clear hb
  go_wp2_with fail
  refine (holds_any (w.heap.size + 1) 3 [110, 0, 90, 0, 0] 80 89 _ (by decide) (by decide) (by decide) H.out).mono ?_
  rintro e w12 ⟨rfl, hb⟩
  rw [show (isS 80 89 && decide (89 < unt 3 [110, 0, 90, 0, 0])) = true by decide]
  replace V := Lib.hid (Blk.below V.out hb V.out.lt)
  replace H := Lib.hid (Blk.below H.out hb H.out.lt)
  replace S := Lib.hid (Blk.below S.out hb S.out.lt)
  replace HB := Lib.hid (below_then HB.out hb)
  clear hb
  go_wp2_with fail
  refine (holds_any (w.heap.size + 1) 3 [110, 0, 90, 0, 0] 80 90 _ (by decide) (by decide) (by decide) H.out).mono ?_
  rintro e w13 ⟨rfl, hb⟩
  rw [show (isS 80 90 && decide (90 < unt 3 [110, 0, 90, 0, 0])) = false by decide]
  replace V := Lib.hid (Blk.below V.out hb V.out.lt)
  replace H := Lib.hid (Blk.below H.out hb H.out.lt)
  replace S := Lib.hid (Blk.below S.out hb S.out.lt)
  replace HB := Lib.hid (below_then HB.out hb)
  clear hb
  go_wp2_with fail
  go_ret
  exact ⟨rfl, HB.out⟩
end Go.Proofs.Ytajojpfenlafbaa
