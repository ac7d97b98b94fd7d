/- SpanRelates: the walk. -/
import Derived.Test.YtnljmjibjjjelaaSpanD
set_option linter.unusedSimpArgs false
set_option linter.unusedVariables false
namespace Go.Proofs.Ytnljmjibjjjelaa
open Go.RowKit Mo
set_option maxHeartbeats 1000000 in
theorem spanRelates_walk (w : World) (a b : Int) (wa : (Lit.int .i64 a).wf = true) (wb : (Lit.int .i64 b).wf = true) (c d : Int) (wc : (Lit.int .i64 c).wf = true) (wd : (Lit.int .i64 d).wf = true) (t : Int) (wt : (Lit.int .i64 t).wf = true) :
    Calls Try.prog 5 #[.agg #[.int .i64 a, .int .i64 b], .agg #[.int .i64 c, .int .i64 d], .int .i64 t] w fun e w' => e = .returned (.bool true) ∧ Below w.heap.size w w' := by
  obtain ⟨A, B, k, hM⟩ := meet_of a b c d
  have HMEET := Lib.hid hM
  have TA : Hid (Blk ((w.alloc (.cells #[.int .i64 a, .int .i64 b] 23)).alloc (.cells #[.int .i64 c, .int .i64 d] 23)) w.heap.size 23 #[.int .i64 a, .int .i64 b]) := Lib.hid ((Blk.new w _ _).alloc _)
  have TB : Hid (Blk ((w.alloc (.cells #[.int .i64 a, .int .i64 b] 23)).alloc (.cells #[.int .i64 c, .int .i64 d] 23)) (w.heap.size + 1) 23 #[.int .i64 c, .int .i64 d]) := Lib.hid (Blk.new' (by simp))
  have HB : Hid (Below w.heap.size w w) := Lib.hid (Below.refl _ _)
  have HW := Lib.hid (And.intro wa (And.intro wb (And.intro wc wd)))
  clear wa wb wc wd wt hM
  obtain ⟨p, hp⟩ : ∃ p, hasS a b t = p := ⟨_, rfl⟩
  have HP := Lib.hid hp; clear hp
  rcases (show (isS a b = false ∧ befS a b c d = false) ∨ (isS a b = true ∧ isS c d = false ∧ befS a b c d = false) ∨ (isS a b = true ∧ isS c d = true ∧ b < c ∧ befS a b c d = true) ∨ (isS a b = true ∧ isS c d = true ∧ c ≤ b ∧ befS a b c d = false) by
    unfold befS
    cases isS a b <;> cases isS c d <;> simp
    omega) with ⟨h, i⟩ | ⟨h, i, j⟩ | ⟨h, i, l, j⟩ | ⟨h, i, l, j⟩
  all_goals
    have HH := Lib.hid h; have HI := Lib.hid i; clear h i
    try (have HJ := Lib.hid j; clear j)
    try have hd : decide (b < c) = false := by simp; omega
    go_enter Try.func5, Try.ntmps5
    go_wp2_with (first
      | (go_at_call 20; refine (meet_below a b c d _ _ _ _ HMEET.out HW.out.1 HW.out.2.1 HW.out.2.2.1 HW.out.2.2.2).mono ?_; rintro e wM ⟨rfl, hb⟩; (replace TA := Lib.hid (blk_pass TA.out (by repeat (first | exact Below.refl _ _ | refine below_alloc_ ?_ _ | refine Below.drew ?_)) hb); (try clear q1 q2 q3); obtain ⟨⟨q1, q2⟩, q3⟩ := blk_facts TA.out; replace TB := Lib.hid (blk_pass TB.out (by repeat (first | exact Below.refl _ _ | refine below_alloc_ ?_ _ | refine Below.drew ?_)) hb); (try clear q4 q5 q6); obtain ⟨⟨q4, q5⟩, q6⟩ := blk_facts TB.out; have TC : Hid (Blk (wM.alloc (.cells #[.int .i64 A, .int .i64 B] 23)) wM.heap.size 23 #[.int .i64 A, .int .i64 B]) := Lib.hid (Blk.new wM _ _); replace HB := Lib.hid (below_then (w := w) (by repeat (first | exact HB.out | refine below_alloc_ ?_ _ | exact Below.refl _ _)) hb); clear hb))
      | (go_at_call 21; refine (rmeet_below a b c d _ _ _ _ HMEET.out HW.out.1 HW.out.2.1 HW.out.2.2.1 HW.out.2.2.2).mono ?_; rintro e wR ⟨rfl, hb⟩; (replace TA := Lib.hid (blk_pass TA.out (by repeat (first | exact Below.refl _ _ | refine below_alloc_ ?_ _ | refine Below.drew ?_)) hb); (try clear q1 q2 q3); obtain ⟨⟨q1, q2⟩, q3⟩ := blk_facts TA.out; replace TB := Lib.hid (blk_pass TB.out (by repeat (first | exact Below.refl _ _ | refine below_alloc_ ?_ _ | refine Below.drew ?_)) hb); (try clear q4 q5 q6); obtain ⟨⟨q4, q5⟩, q6⟩ := blk_facts TB.out; replace TC := Lib.hid (blk_pass TC.out (by repeat (first | exact Below.refl _ _ | refine below_alloc_ ?_ _ | refine Below.drew ?_)) hb); (try clear q7 q8 q9); obtain ⟨⟨q7, q8⟩, q9⟩ := blk_facts TC.out; have TD : Hid (Blk (wR.alloc (.cells #[.int .i64 A, .int .i64 B] 23)) wR.heap.size 23 #[.int .i64 A, .int .i64 B]) := Lib.hid (Blk.new wR _ _); replace HB := Lib.hid (below_then (w := w) (by repeat (first | exact HB.out | refine below_alloc_ ?_ _ | exact Below.refl _ _)) hb); clear hb))
      | (go_at_call 17; refine (is_below _ _ _).mono ?_; rintro e w5 ⟨rfl, hb⟩; (first | rw [HH.out] | rw [HI.out]); (replace TA := Lib.hid (blk_pass TA.out (by repeat (first | exact Below.refl _ _ | refine below_alloc_ ?_ _ | refine Below.drew ?_)) hb); (try clear q1 q2 q3); obtain ⟨⟨q1, q2⟩, q3⟩ := blk_facts TA.out; replace TB := Lib.hid (blk_pass TB.out (by repeat (first | exact Below.refl _ _ | refine below_alloc_ ?_ _ | refine Below.drew ?_)) hb); (try clear q4 q5 q6); obtain ⟨⟨q4, q5⟩, q6⟩ := blk_facts TB.out; replace TC := Lib.hid (blk_pass TC.out (by repeat (first | exact Below.refl _ _ | refine below_alloc_ ?_ _ | refine Below.drew ?_)) hb); (try clear q7 q8 q9); obtain ⟨⟨q7, q8⟩, q9⟩ := blk_facts TC.out; replace TD := Lib.hid (blk_pass TD.out (by repeat (first | exact Below.refl _ _ | refine below_alloc_ ?_ _ | refine Below.drew ?_)) hb); (try clear q10 q11 q12); obtain ⟨⟨q10, q11⟩, q12⟩ := blk_facts TD.out; replace HB := Lib.hid (below_then (w := w) (by repeat (first | exact HB.out | refine below_alloc_ ?_ _ | exact Below.refl _ _)) hb); clear hb)))
    go_region_held3 (fun w' => w'.cell? ⟨w.heap.size, 0, none⟩ = some (.int .i64 a) ∧ w'.cell? ⟨w.heap.size, 1, none⟩ = some (.int .i64 b) ∧ w'.cell? ⟨w.heap.size + 1, 0, none⟩ = some (.int .i64 c) ∧ w'.cell? ⟨w.heap.size + 1, 1, none⟩ = some (.int .i64 d) ∧ w'.cell? ⟨wM.heap.size, 0, none⟩ = some (.int .i64 A) ∧ w'.cell? ⟨wM.heap.size, 1, none⟩ = some (.int .i64 B) ∧ w'.cell? ⟨wR.heap.size, 0, none⟩ = some (.int .i64 A) ∧ w'.cell? ⟨wR.heap.size, 1, none⟩ = some (.int .i64 B) ∧ Hid (Below w.heap.size w w'))
      (first | exact keep8 (by assumption) hb | exact ⟨q1, q2, q4, q5, q7, q8, q10, q11, Lib.hid (Below.drew HB.out)⟩ | exact (by assumption))
      (first
        | (go_at_call 15; refine (awake05_any _).mono ?_; rintro e w5 ⟨rfl, hb⟩)
        | (go_at_call 22; refine (has_below _ _ _ _).mono ?_; rintro e w5 ⟨rfl, hb⟩; rw [HP.out])
        | (go_at_call 23; refine (rhas_below _ _ _ _).mono ?_; rintro e w5 ⟨rfl, hb⟩; rw [HP.out])
        | (go_at_call 24; refine (before_below _ _ _ _ _).mono ?_; rintro e w5 ⟨rfl, hb⟩; (first | rw [HI.out] | rw [HJ.out])))
    all_goals
      go_wp2_with (fail)
      go_ret
      exact ⟨rfl, last8 (by assumption)⟩
end Go.Proofs.Ytnljmjibjjjelaa
