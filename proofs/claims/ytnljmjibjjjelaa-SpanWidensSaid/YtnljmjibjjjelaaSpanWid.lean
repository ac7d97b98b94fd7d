/- SpanWidens: the walk. -/
import Derived.Test.YtnljmjibjjjelaaSpanD
set_option linter.unusedSimpArgs false
set_option linter.unusedVariables false
namespace Go.Proofs.Ytnljmjibjjjelaa
open Go.RowKit Mo
set_option maxHeartbeats 1000000 in
theorem spanWidens_walk (w : World) (a b : Int) (wa : (Lit.int .i64 a).wf = true) (wb : (Lit.int .i64 b).wf = true) (t : Int) (wt : (Lit.int .i64 t).wf = true) (by_ : Int) (wy : (Lit.int .i64 by_).wf = true) :
    Calls Try.prog 3 #[.agg #[.int .i64 a, .int .i64 b], .int .i64 t, .int .i64 by_] w fun e w' => e = .returned (.bool true) ∧ Below w.heap.size w w' := by
  obtain ⟨A, B, E, hM⟩ := wid_of a b by_
  have HWID := Lib.hid hM
  obtain ⟨X, Y, F, hN⟩ := wid_of t t by_
  have HWIT := Lib.hid hN
  have TA : Hid (Blk (w.alloc (.cells #[.int .i64 a, .int .i64 b] 23)) w.heap.size 23 #[.int .i64 a, .int .i64 b]) := Lib.hid (Blk.new w _ _)
  have HB : Hid (Below w.heap.size w w) := Lib.hid (Below.refl _ _)
  clear wa wb wt wy hM hN
  obtain ⟨s, hs⟩ : ∃ s, isS a b = s := ⟨_, rfl⟩
  have HS := Lib.hid hs; clear hs
  cases s
  all_goals
    go_enter Try.func3, Try.ntmps3
    go_wp2_with (first
      | (go_at_call 12; refine (widen_below _ _ _ _ _ _ _ HWID.out).mono ?_; rintro e wA ⟨rfl, hb⟩; (replace TA := Lib.hid (blk_pass TA.out (by repeat (first | exact Below.refl _ _ | refine below_alloc_ ?_ _ | refine Below.drew ?_)) hb); (try clear q1 q2 q3); obtain ⟨⟨q1, q2⟩, q3⟩ := blk_facts TA.out; have TC : Hid (Blk (wA.alloc (.cells #[.int .i64 A, .int .i64 B] 23)) wA.heap.size 23 #[.int .i64 A, .int .i64 B]) := Lib.hid (Blk.new wA _ _); replace HB := Lib.hid (below_then (w := w) (by repeat (first | exact HB.out | refine below_alloc_ ?_ _ | exact Below.refl _ _)) hb); clear hb))
      | (go_at_call 14; refine (around_below _ _ _ _ _ _ HWIT.out).mono ?_; rintro e wC ⟨rfl, hb⟩; (replace TA := Lib.hid (blk_pass TA.out (by repeat (first | exact Below.refl _ _ | refine below_alloc_ ?_ _ | refine Below.drew ?_)) hb); (try clear q1 q2 q3); obtain ⟨⟨q1, q2⟩, q3⟩ := blk_facts TA.out; replace TC := Lib.hid (blk_pass TC.out (by repeat (first | exact Below.refl _ _ | refine below_alloc_ ?_ _ | refine Below.drew ?_)) hb); (try clear q4 q5 q6); obtain ⟨⟨q4, q5⟩, q6⟩ := blk_facts TC.out; replace TD := Lib.hid (blk_pass TD.out (by repeat (first | exact Below.refl _ _ | refine below_alloc_ ?_ _ | refine Below.drew ?_)) hb); (try clear q7 q8 q9); obtain ⟨⟨q7, q8⟩, q9⟩ := blk_facts TD.out; have TE : Hid (Blk (wC.alloc (.cells #[.int .i64 X, .int .i64 Y] 23)) wC.heap.size 23 #[.int .i64 X, .int .i64 Y]) := Lib.hid (Blk.new wC _ _); replace HB := Lib.hid (below_then (w := w) (by repeat (first | exact HB.out | refine below_alloc_ ?_ _ | exact Below.refl _ _)) hb); clear hb))
      | (go_at_call 13; (have := TE.out; clear this); refine (rwiden_below t t by_ _ _ _ _ HWIT.out).mono ?_; rintro e wD ⟨rfl, hb⟩; (replace TA := Lib.hid (blk_pass TA.out (by repeat (first | exact Below.refl _ _ | refine below_alloc_ ?_ _ | refine Below.drew ?_)) hb); (try clear q1 q2 q3); obtain ⟨⟨q1, q2⟩, q3⟩ := blk_facts TA.out; replace TC := Lib.hid (blk_pass TC.out (by repeat (first | exact Below.refl _ _ | refine below_alloc_ ?_ _ | refine Below.drew ?_)) hb); (try clear q4 q5 q6); obtain ⟨⟨q4, q5⟩, q6⟩ := blk_facts TC.out; replace TD := Lib.hid (blk_pass TD.out (by repeat (first | exact Below.refl _ _ | refine below_alloc_ ?_ _ | refine Below.drew ?_)) hb); (try clear q7 q8 q9); obtain ⟨⟨q7, q8⟩, q9⟩ := blk_facts TD.out; replace TE := Lib.hid (blk_pass TE.out (by repeat (first | exact Below.refl _ _ | refine below_alloc_ ?_ _ | refine Below.drew ?_)) hb); (try clear q10 q11 q12); obtain ⟨⟨q10, q11⟩, q12⟩ := blk_facts TE.out; have TF : Hid (Blk (wD.alloc (.cells #[.int .i64 X, .int .i64 Y] 23)) wD.heap.size 23 #[.int .i64 X, .int .i64 Y]) := Lib.hid (Blk.new wD _ _); replace HB := Lib.hid (below_then (w := w) (by repeat (first | exact HB.out | refine below_alloc_ ?_ _ | exact Below.refl _ _)) hb); clear hb))
      | (go_at_call 13; refine (rwiden_below a b by_ _ _ _ _ HWID.out).mono ?_; rintro e wB ⟨rfl, hb⟩; (replace TA := Lib.hid (blk_pass TA.out (by repeat (first | exact Below.refl _ _ | refine below_alloc_ ?_ _ | refine Below.drew ?_)) hb); (try clear q1 q2 q3); obtain ⟨⟨q1, q2⟩, q3⟩ := blk_facts TA.out; replace TC := Lib.hid (blk_pass TC.out (by repeat (first | exact Below.refl _ _ | refine below_alloc_ ?_ _ | refine Below.drew ?_)) hb); (try clear q4 q5 q6); obtain ⟨⟨q4, q5⟩, q6⟩ := blk_facts TC.out; have TD : Hid (Blk (wB.alloc (.cells #[.int .i64 A, .int .i64 B] 23)) wB.heap.size 23 #[.int .i64 A, .int .i64 B]) := Lib.hid (Blk.new wB _ _); replace HB := Lib.hid (below_then (w := w) (by repeat (first | exact HB.out | refine below_alloc_ ?_ _ | exact Below.refl _ _)) hb); clear hb)))
    have g1 := TF.out.c2.1
    have g2 := TF.out.c2.2
    have hz : Below wD.heap.size wD (wD.alloc (.cells #[.int .i64 X, .int .i64 Y] 23)).drew := Below.drew (below_alloc_ (Below.refl _ _) _)
    have hz2 : Hid (Below w.heap.size w (wD.alloc (.cells #[.int .i64 X, .int .i64 Y] 23)).drew) := Lib.hid (below_then HB.out hz)
    go_region_held3 (fun w' => w'.cell? ⟨w.heap.size, 0, none⟩ = some (.int .i64 a) ∧ w'.cell? ⟨w.heap.size, 1, none⟩ = some (.int .i64 b) ∧ w'.cell? ⟨wA.heap.size, 0, none⟩ = some (.int .i64 A) ∧ w'.cell? ⟨wA.heap.size, 1, none⟩ = some (.int .i64 B) ∧ w'.cell? ⟨wB.heap.size, 0, none⟩ = some (.int .i64 A) ∧ w'.cell? ⟨wB.heap.size, 1, none⟩ = some (.int .i64 B) ∧ w'.cell? ⟨wC.heap.size, 0, none⟩ = some (.int .i64 X) ∧ w'.cell? ⟨wC.heap.size, 1, none⟩ = some (.int .i64 Y) ∧ w'.cell? ⟨wD.heap.size, 0, none⟩ = some (.int .i64 X) ∧ w'.cell? ⟨wD.heap.size, 1, none⟩ = some (.int .i64 Y) ∧ Hid (Below w.heap.size w w'))
      (first | exact keep10 (by assumption) hb | exact ⟨below_cell q1 hz, below_cell q2 hz, below_cell q4 hz, below_cell q5 hz, below_cell q7 hz, below_cell q8 hz, below_cell q10 hz, below_cell q11 hz, g1, g2, hz2⟩)
      (first
        | (go_at_call 15; refine (awake05_any _).mono ?_; rintro e w5 ⟨rfl, hb⟩)
        | (go_at_call 16; refine (check_below _ _ _).mono ?_; rintro e w5 ⟨rfl, hb⟩; rw [HS.out])
        | (go_at_call 17; refine (is_below _ _ _).mono ?_; rintro e w5 ⟨rfl, hb⟩; rw [HS.out]))
    all_goals
      go_wp2_with (fail)
      go_ret
      exact ⟨rfl, last10 (by assumption)⟩
end Go.Proofs.Ytnljmjibjjjelaa
