/- SpanWider: the walk. -/
import Derived.Test.YtnljmjibjjjelaaSpanQ
set_option linter.unusedSimpArgs false
set_option linter.unusedVariables false
namespace Go.Proofs.Ytnljmjibjjjelaa
open Go.RowKit Mo
theorem Blk.c3 {w : World} {g : Nat} {t : TypeId} {a b c : Value} (h : Blk w g t #[a, b, c]) : (w.cell? ⟨g, 0, none⟩ = some a ∧ w.cell? ⟨g, 1, none⟩ = some b ∧ w.cell? ⟨g, 2, none⟩ = some c) ∧ g < w.heap.size := by
  have h0 := h.cell 0; have h1 := h.cell 1; have h2 := h.cell 2
  exact ⟨⟨by simpa using h0, by simpa using h1, by simpa using h2⟩, h.lt⟩
theorem wider_cases (lo hi e1 e2 : Int) (r : Nat) (A B E C D F : Int) (h : DriftIs lo hi e1 r A B E) (k : DriftIs lo hi e2 r C D F) :
    (E = 50 ∨ E = 51 ∨ E = 52) ∨ (E = 0 ∧ (F = 50 ∨ F = 51 ∨ F = 52)) ∨ (E = 0 ∧ F = 0 ∧ e2 < e1) ∨ (E = 0 ∧ F = 0 ∧ e1 ≤ e2 ∧ C ≤ A ∧ A ≤ lo ∧ hi ≤ B ∧ B ≤ D ∧ isS A B = true ∧ isS C D = true) := by
  rcases h with ⟨_, _, _, rfl⟩ | ⟨_, _, _, _, rfl⟩ | ⟨_, _, _, _, rfl⟩ | ⟨_, _, _, _, _, _, rfl⟩ | ⟨hs, h1, h2, hr, hA, hB, rfl⟩
  · exact .inl (.inl rfl)
  · exact .inl (.inr (.inr rfl))
  · exact .inl (.inr (.inr rfl))
  · exact .inl (.inr (.inl rfl))
  right
  rcases k with ⟨_, _, _, rfl⟩ | ⟨_, _, _, _, rfl⟩ | ⟨_, _, _, _, rfl⟩ | ⟨_, _, _, _, _, _, rfl⟩ | ⟨_, k1, k2, _, hC, hD, rfl⟩
  · exact .inl ⟨rfl, .inl rfl⟩
  · exact .inl ⟨rfl, .inr (.inr rfl)⟩
  · exact .inl ⟨rfl, .inr (.inr rfl)⟩
  · exact .inl ⟨rfl, .inr (.inl rfl)⟩
  right
  rcases (show e2 < e1 ∨ e1 ≤ e2 by omega) with h | h
  · exact .inl ⟨rfl, rfl, h⟩
  right
  have g := isS_iff.1 hs
  have m : driftBy e1 r ≤ driftBy e2 r := drift_mono r (by omega)
  exact ⟨rfl, rfl, h, by omega, by omega, by omega, by omega, isS_iff.2 (by omega), isS_iff.2 (by omega)⟩
set_option maxHeartbeats 1000000 in
theorem spanWider_walk (w : World) (lo hi : Int) (wl : (Lit.int .i64 lo).wf = true) (wh : (Lit.int .i64 hi).wf = true) (e1 e2 : Int) (r : Nat) (wx : (Lit.int .i64 e1).wf = true) (wy : (Lit.int .i64 e2).wf = true) (wz : (Lit.float .f64 r).wf = true) :
    Calls Try.prog 10 #[.agg #[.int .i64 lo, .int .i64 hi], .agg #[.int .i64 e1, .int .i64 e2, .float .f64 r]] w fun e w' => e = .returned (.bool true) ∧ Below w.heap.size w w' := by
  have hrb := f64_wf wz
  obtain ⟨A, B, E, hM⟩ := drift_of lo hi e1 r
  obtain ⟨C, D, F, hN⟩ := drift_of lo hi e2 r
  have HDA := Lib.hid hM
  have HDB := Lib.hid hN
  have TA : Hid (Blk ((w.alloc (.cells #[.int .i64 lo, .int .i64 hi] 23)).alloc (.cells #[.int .i64 e1, .int .i64 e2, .float .f64 r] 47)) w.heap.size 23 #[.int .i64 lo, .int .i64 hi]) := Lib.hid ((Blk.new w _ _).alloc _)
  have TB : Hid (Blk ((w.alloc (.cells #[.int .i64 lo, .int .i64 hi] 23)).alloc (.cells #[.int .i64 e1, .int .i64 e2, .float .f64 r] 47)) (w.heap.size + 1) 47 #[.int .i64 e1, .int .i64 e2, .float .f64 r]) := Lib.hid (Blk.new' (by simp))
  have HB : Hid (Below w.heap.size w w) := Lib.hid (Below.refl _ _)
  clear wl wh wx wy wz
  rcases wider_cases lo hi e1 e2 r A B E C D F hM hN with hE | ⟨rfl, hE⟩ | ⟨rfl, rfl, h⟩ | ⟨rfl, rfl, h, g1, g2, g3, g4, i, j⟩
  · clear hM hN
    rcases hE with rfl | rfl | rfl
    all_goals
      go_enter Try.func10, Try.ntmps10
      go_wp2_with (first
        | (go_at_call 15; refine (awake05_any _).mono ?_; rintro e w5 ⟨rfl, hb⟩; (replace TA := Lib.hid (blk_pass TA.out (by repeat (first | exact Below.refl _ _ | refine below_alloc_ ?_ _ | refine Below.drew ?_)) hb); (try clear q1 q2 q3); obtain ⟨⟨q1, q2⟩, q3⟩ := blk_facts TA.out; replace TB := Lib.hid (blk_pass TB.out (by repeat (first | exact Below.refl _ _ | refine below_alloc_ ?_ _ | refine Below.drew ?_)) hb); (try clear q4 q5 q6 q7); obtain ⟨⟨q4, q5, q6⟩, q7⟩ := Blk.c3 TB.out; replace TC := Lib.hid (blk_pass TC.out (by repeat (first | exact Below.refl _ _ | refine below_alloc_ ?_ _ | refine Below.drew ?_)) hb); (try clear q8 q9 q10); obtain ⟨⟨q8, q9⟩, q10⟩ := blk_facts TC.out; replace TD := Lib.hid (blk_pass TD.out (by repeat (first | exact Below.refl _ _ | refine below_alloc_ ?_ _ | refine Below.drew ?_)) hb); (try clear q11 q12 q13); obtain ⟨⟨q11, q12⟩, q13⟩ := blk_facts TD.out; replace HB := Lib.hid (below_then (w := w) (by repeat (first | exact HB.out | refine below_alloc_ ?_ _ | exact Below.refl _ _)) hb); clear hb))
        | (go_at_call 18; (have := TC.out; clear this); refine (drift_below lo hi e2 r _ _ _ _ HDB.out hrb).mono ?_; rintro e wB ⟨rfl, hb⟩; (replace TA := Lib.hid (blk_pass TA.out (by repeat (first | exact Below.refl _ _ | refine below_alloc_ ?_ _ | refine Below.drew ?_)) hb); (try clear q1 q2 q3); obtain ⟨⟨q1, q2⟩, q3⟩ := blk_facts TA.out; replace TB := Lib.hid (blk_pass TB.out (by repeat (first | exact Below.refl _ _ | refine below_alloc_ ?_ _ | refine Below.drew ?_)) hb); (try clear q4 q5 q6 q7); obtain ⟨⟨q4, q5, q6⟩, q7⟩ := Blk.c3 TB.out; replace TC := Lib.hid (blk_pass TC.out (by repeat (first | exact Below.refl _ _ | refine below_alloc_ ?_ _ | refine Below.drew ?_)) hb); (try clear q8 q9 q10); obtain ⟨⟨q8, q9⟩, q10⟩ := blk_facts TC.out; have TD : Hid (Blk (wB.alloc (.cells #[.int .i64 C, .int .i64 D] 23)) wB.heap.size 23 #[.int .i64 C, .int .i64 D]) := Lib.hid (Blk.new wB _ _); replace HB := Lib.hid (below_then (w := w) (by repeat (first | exact HB.out | refine below_alloc_ ?_ _ | exact Below.refl _ _)) hb); clear hb))
        | (go_at_call 18; refine (drift_below lo hi e1 r _ _ _ _ HDA.out hrb).mono ?_; rintro e wA ⟨rfl, hb⟩; (replace TA := Lib.hid (blk_pass TA.out (by repeat (first | exact Below.refl _ _ | refine below_alloc_ ?_ _ | refine Below.drew ?_)) hb); (try clear q1 q2 q3); obtain ⟨⟨q1, q2⟩, q3⟩ := blk_facts TA.out; replace TB := Lib.hid (blk_pass TB.out (by repeat (first | exact Below.refl _ _ | refine below_alloc_ ?_ _ | refine Below.drew ?_)) hb); (try clear q4 q5 q6 q7); obtain ⟨⟨q4, q5, q6⟩, q7⟩ := Blk.c3 TB.out; have TC : Hid (Blk (wA.alloc (.cells #[.int .i64 A, .int .i64 B] 23)) wA.heap.size 23 #[.int .i64 A, .int .i64 B]) := Lib.hid (Blk.new wA _ _); replace HB := Lib.hid (below_then (w := w) (by repeat (first | exact HB.out | refine below_alloc_ ?_ _ | exact Below.refl _ _)) hb); clear hb)))
      go_ret
      exact ⟨rfl, HB.out⟩
  · clear hM hN
    rcases hE with rfl | rfl | rfl
    all_goals
      go_enter Try.func10, Try.ntmps10
      go_wp2_with (first
        | (go_at_call 15; refine (awake05_any _).mono ?_; rintro e w5 ⟨rfl, hb⟩; (replace TA := Lib.hid (blk_pass TA.out (by repeat (first | exact Below.refl _ _ | refine below_alloc_ ?_ _ | refine Below.drew ?_)) hb); (try clear q1 q2 q3); obtain ⟨⟨q1, q2⟩, q3⟩ := blk_facts TA.out; replace TB := Lib.hid (blk_pass TB.out (by repeat (first | exact Below.refl _ _ | refine below_alloc_ ?_ _ | refine Below.drew ?_)) hb); (try clear q4 q5 q6 q7); obtain ⟨⟨q4, q5, q6⟩, q7⟩ := Blk.c3 TB.out; replace TC := Lib.hid (blk_pass TC.out (by repeat (first | exact Below.refl _ _ | refine below_alloc_ ?_ _ | refine Below.drew ?_)) hb); (try clear q8 q9 q10); obtain ⟨⟨q8, q9⟩, q10⟩ := blk_facts TC.out; replace TD := Lib.hid (blk_pass TD.out (by repeat (first | exact Below.refl _ _ | refine below_alloc_ ?_ _ | refine Below.drew ?_)) hb); (try clear q11 q12 q13); obtain ⟨⟨q11, q12⟩, q13⟩ := blk_facts TD.out; replace HB := Lib.hid (below_then (w := w) (by repeat (first | exact HB.out | refine below_alloc_ ?_ _ | exact Below.refl _ _)) hb); clear hb))
        | (go_at_call 18; (have := TC.out; clear this); refine (drift_below lo hi e2 r _ _ _ _ HDB.out hrb).mono ?_; rintro e wB ⟨rfl, hb⟩; (replace TA := Lib.hid (blk_pass TA.out (by repeat (first | exact Below.refl _ _ | refine below_alloc_ ?_ _ | refine Below.drew ?_)) hb); (try clear q1 q2 q3); obtain ⟨⟨q1, q2⟩, q3⟩ := blk_facts TA.out; replace TB := Lib.hid (blk_pass TB.out (by repeat (first | exact Below.refl _ _ | refine below_alloc_ ?_ _ | refine Below.drew ?_)) hb); (try clear q4 q5 q6 q7); obtain ⟨⟨q4, q5, q6⟩, q7⟩ := Blk.c3 TB.out; replace TC := Lib.hid (blk_pass TC.out (by repeat (first | exact Below.refl _ _ | refine below_alloc_ ?_ _ | refine Below.drew ?_)) hb); (try clear q8 q9 q10); obtain ⟨⟨q8, q9⟩, q10⟩ := blk_facts TC.out; have TD : Hid (Blk (wB.alloc (.cells #[.int .i64 C, .int .i64 D] 23)) wB.heap.size 23 #[.int .i64 C, .int .i64 D]) := Lib.hid (Blk.new wB _ _); replace HB := Lib.hid (below_then (w := w) (by repeat (first | exact HB.out | refine below_alloc_ ?_ _ | exact Below.refl _ _)) hb); clear hb))
        | (go_at_call 18; refine (drift_below lo hi e1 r _ _ _ _ HDA.out hrb).mono ?_; rintro e wA ⟨rfl, hb⟩; (replace TA := Lib.hid (blk_pass TA.out (by repeat (first | exact Below.refl _ _ | refine below_alloc_ ?_ _ | refine Below.drew ?_)) hb); (try clear q1 q2 q3); obtain ⟨⟨q1, q2⟩, q3⟩ := blk_facts TA.out; replace TB := Lib.hid (blk_pass TB.out (by repeat (first | exact Below.refl _ _ | refine below_alloc_ ?_ _ | refine Below.drew ?_)) hb); (try clear q4 q5 q6 q7); obtain ⟨⟨q4, q5, q6⟩, q7⟩ := Blk.c3 TB.out; have TC : Hid (Blk (wA.alloc (.cells #[.int .i64 A, .int .i64 B] 23)) wA.heap.size 23 #[.int .i64 A, .int .i64 B]) := Lib.hid (Blk.new wA _ _); replace HB := Lib.hid (below_then (w := w) (by repeat (first | exact HB.out | refine below_alloc_ ?_ _ | exact Below.refl _ _)) hb); clear hb)))
      go_ret
      exact ⟨rfl, HB.out⟩
  · clear hM hN
    go_enter Try.func10, Try.ntmps10
    go_wp2_with (first
      | (go_at_call 15; refine (awake05_any _).mono ?_; rintro e w5 ⟨rfl, hb⟩; (replace TA := Lib.hid (blk_pass TA.out (by repeat (first | exact Below.refl _ _ | refine below_alloc_ ?_ _ | refine Below.drew ?_)) hb); (try clear q1 q2 q3); obtain ⟨⟨q1, q2⟩, q3⟩ := blk_facts TA.out; replace TB := Lib.hid (blk_pass TB.out (by repeat (first | exact Below.refl _ _ | refine below_alloc_ ?_ _ | refine Below.drew ?_)) hb); (try clear q4 q5 q6 q7); obtain ⟨⟨q4, q5, q6⟩, q7⟩ := Blk.c3 TB.out; replace TC := Lib.hid (blk_pass TC.out (by repeat (first | exact Below.refl _ _ | refine below_alloc_ ?_ _ | refine Below.drew ?_)) hb); (try clear q8 q9 q10); obtain ⟨⟨q8, q9⟩, q10⟩ := blk_facts TC.out; replace TD := Lib.hid (blk_pass TD.out (by repeat (first | exact Below.refl _ _ | refine below_alloc_ ?_ _ | refine Below.drew ?_)) hb); (try clear q11 q12 q13); obtain ⟨⟨q11, q12⟩, q13⟩ := blk_facts TD.out; replace HB := Lib.hid (below_then (w := w) (by repeat (first | exact HB.out | refine below_alloc_ ?_ _ | exact Below.refl _ _)) hb); clear hb))
      | (go_at_call 18; (have := TC.out; clear this); refine (drift_below lo hi e2 r _ _ _ _ HDB.out hrb).mono ?_; rintro e wB ⟨rfl, hb⟩; (replace TA := Lib.hid (blk_pass TA.out (by repeat (first | exact Below.refl _ _ | refine below_alloc_ ?_ _ | refine Below.drew ?_)) hb); (try clear q1 q2 q3); obtain ⟨⟨q1, q2⟩, q3⟩ := blk_facts TA.out; replace TB := Lib.hid (blk_pass TB.out (by repeat (first | exact Below.refl _ _ | refine below_alloc_ ?_ _ | refine Below.drew ?_)) hb); (try clear q4 q5 q6 q7); obtain ⟨⟨q4, q5, q6⟩, q7⟩ := Blk.c3 TB.out; replace TC := Lib.hid (blk_pass TC.out (by repeat (first | exact Below.refl _ _ | refine below_alloc_ ?_ _ | refine Below.drew ?_)) hb); (try clear q8 q9 q10); obtain ⟨⟨q8, q9⟩, q10⟩ := blk_facts TC.out; have TD : Hid (Blk (wB.alloc (.cells #[.int .i64 C, .int .i64 D] 23)) wB.heap.size 23 #[.int .i64 C, .int .i64 D]) := Lib.hid (Blk.new wB _ _); replace HB := Lib.hid (below_then (w := w) (by repeat (first | exact HB.out | refine below_alloc_ ?_ _ | exact Below.refl _ _)) hb); clear hb))
      | (go_at_call 18; refine (drift_below lo hi e1 r _ _ _ _ HDA.out hrb).mono ?_; rintro e wA ⟨rfl, hb⟩; (replace TA := Lib.hid (blk_pass TA.out (by repeat (first | exact Below.refl _ _ | refine below_alloc_ ?_ _ | refine Below.drew ?_)) hb); (try clear q1 q2 q3); obtain ⟨⟨q1, q2⟩, q3⟩ := blk_facts TA.out; replace TB := Lib.hid (blk_pass TB.out (by repeat (first | exact Below.refl _ _ | refine below_alloc_ ?_ _ | refine Below.drew ?_)) hb); (try clear q4 q5 q6 q7); obtain ⟨⟨q4, q5, q6⟩, q7⟩ := Blk.c3 TB.out; have TC : Hid (Blk (wA.alloc (.cells #[.int .i64 A, .int .i64 B] 23)) wA.heap.size 23 #[.int .i64 A, .int .i64 B]) := Lib.hid (Blk.new wA _ _); replace HB := Lib.hid (below_then (w := w) (by repeat (first | exact HB.out | refine below_alloc_ ?_ _ | exact Below.refl _ _)) hb); clear hb)))
    go_ret
    exact ⟨rfl, HB.out⟩
  · clear hM hN
    have HI := Lib.hid i; have HJ := Lib.hid j; clear i j
    have hd : decide (e2 < e1) = false := by simp; omega
    go_enter Try.func10, Try.ntmps10
    go_wp2_with (first
      | (go_at_call 15; refine (awake05_any _).mono ?_; rintro e w5 ⟨rfl, hb⟩; (replace TA := Lib.hid (blk_pass TA.out (by repeat (first | exact Below.refl _ _ | refine below_alloc_ ?_ _ | refine Below.drew ?_)) hb); (try clear q1 q2 q3); obtain ⟨⟨q1, q2⟩, q3⟩ := blk_facts TA.out; replace TB := Lib.hid (blk_pass TB.out (by repeat (first | exact Below.refl _ _ | refine below_alloc_ ?_ _ | refine Below.drew ?_)) hb); (try clear q4 q5 q6 q7); obtain ⟨⟨q4, q5, q6⟩, q7⟩ := Blk.c3 TB.out; replace TC := Lib.hid (blk_pass TC.out (by repeat (first | exact Below.refl _ _ | refine below_alloc_ ?_ _ | refine Below.drew ?_)) hb); (try clear q8 q9 q10); obtain ⟨⟨q8, q9⟩, q10⟩ := blk_facts TC.out; replace TD := Lib.hid (blk_pass TD.out (by repeat (first | exact Below.refl _ _ | refine below_alloc_ ?_ _ | refine Below.drew ?_)) hb); (try clear q11 q12 q13); obtain ⟨⟨q11, q12⟩, q13⟩ := blk_facts TD.out; replace HB := Lib.hid (below_then (w := w) (by repeat (first | exact HB.out | refine below_alloc_ ?_ _ | exact Below.refl _ _)) hb); clear hb))
      | (go_at_call 18; (have := TC.out; clear this); refine (drift_below lo hi e2 r _ _ _ _ HDB.out hrb).mono ?_; rintro e wB ⟨rfl, hb⟩; (replace TA := Lib.hid (blk_pass TA.out (by repeat (first | exact Below.refl _ _ | refine below_alloc_ ?_ _ | refine Below.drew ?_)) hb); (try clear q1 q2 q3); obtain ⟨⟨q1, q2⟩, q3⟩ := blk_facts TA.out; replace TB := Lib.hid (blk_pass TB.out (by repeat (first | exact Below.refl _ _ | refine below_alloc_ ?_ _ | refine Below.drew ?_)) hb); (try clear q4 q5 q6 q7); obtain ⟨⟨q4, q5, q6⟩, q7⟩ := Blk.c3 TB.out; replace TC := Lib.hid (blk_pass TC.out (by repeat (first | exact Below.refl _ _ | refine below_alloc_ ?_ _ | refine Below.drew ?_)) hb); (try clear q8 q9 q10); obtain ⟨⟨q8, q9⟩, q10⟩ := blk_facts TC.out; have TD : Hid (Blk (wB.alloc (.cells #[.int .i64 C, .int .i64 D] 23)) wB.heap.size 23 #[.int .i64 C, .int .i64 D]) := Lib.hid (Blk.new wB _ _); replace HB := Lib.hid (below_then (w := w) (by repeat (first | exact HB.out | refine below_alloc_ ?_ _ | exact Below.refl _ _)) hb); clear hb))
      | (go_at_call 18; refine (drift_below lo hi e1 r _ _ _ _ HDA.out hrb).mono ?_; rintro e wA ⟨rfl, hb⟩; (replace TA := Lib.hid (blk_pass TA.out (by repeat (first | exact Below.refl _ _ | refine below_alloc_ ?_ _ | refine Below.drew ?_)) hb); (try clear q1 q2 q3); obtain ⟨⟨q1, q2⟩, q3⟩ := blk_facts TA.out; replace TB := Lib.hid (blk_pass TB.out (by repeat (first | exact Below.refl _ _ | refine below_alloc_ ?_ _ | refine Below.drew ?_)) hb); (try clear q4 q5 q6 q7); obtain ⟨⟨q4, q5, q6⟩, q7⟩ := Blk.c3 TB.out; have TC : Hid (Blk (wA.alloc (.cells #[.int .i64 A, .int .i64 B] 23)) wA.heap.size 23 #[.int .i64 A, .int .i64 B]) := Lib.hid (Blk.new wA _ _); replace HB := Lib.hid (below_then (w := w) (by repeat (first | exact HB.out | refine below_alloc_ ?_ _ | exact Below.refl _ _)) hb); clear hb))
      | (go_at_call 16; refine (check_below _ _ _).mono ?_; rintro e w5 ⟨rfl, hb⟩; (first | rw [HI.out] | rw [HJ.out]); (replace TA := Lib.hid (blk_pass TA.out (by repeat (first | exact Below.refl _ _ | refine below_alloc_ ?_ _ | refine Below.drew ?_)) hb); (try clear q1 q2 q3); obtain ⟨⟨q1, q2⟩, q3⟩ := blk_facts TA.out; replace TB := Lib.hid (blk_pass TB.out (by repeat (first | exact Below.refl _ _ | refine below_alloc_ ?_ _ | refine Below.drew ?_)) hb); (try clear q4 q5 q6 q7); obtain ⟨⟨q4, q5, q6⟩, q7⟩ := Blk.c3 TB.out; replace TC := Lib.hid (blk_pass TC.out (by repeat (first | exact Below.refl _ _ | refine below_alloc_ ?_ _ | refine Below.drew ?_)) hb); (try clear q8 q9 q10); obtain ⟨⟨q8, q9⟩, q10⟩ := blk_facts TC.out; replace TD := Lib.hid (blk_pass TD.out (by repeat (first | exact Below.refl _ _ | refine below_alloc_ ?_ _ | refine Below.drew ?_)) hb); (try clear q11 q12 q13); obtain ⟨⟨q11, q12⟩, q13⟩ := blk_facts TD.out; replace HB := Lib.hid (below_then (w := w) (by repeat (first | exact HB.out | refine below_alloc_ ?_ _ | exact Below.refl _ _)) hb); clear hb)))
    go_ret
    exact ⟨rfl, HB.out⟩
end Go.Proofs.Ytnljmjibjjjelaa
