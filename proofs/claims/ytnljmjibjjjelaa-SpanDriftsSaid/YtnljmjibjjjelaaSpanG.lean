/- SpanGoes: the walk. -/
import Derived.Test.YtnljmjibjjjelaaSpanK
set_option linter.unusedSimpArgs false
set_option linter.unusedVariables false
namespace Go.Proofs.Ytnljmjibjjjelaa
open Go.RowKit Mo
/-- what the parameters' blocks hold -/
structure Three (w' : World) (g : Nat) (a b c d x y : Int) : Prop where
  A : Blk w' g 23 #[.int .i64 a, .int .i64 b]
  B : Blk w' (g + 1) 23 #[.int .i64 c, .int .i64 d]
  C : Blk w' (g + 1 + 1) 23 #[.int .i64 x, .int .i64 y]
theorem Three.pass {w1 w2 : World} {g : Nat} {a b c d x y : Int} (h : Three w1 g a b c d x y) (hb : Below w1.heap.size w1 w2) : Three w2 g a b c d x y :=
  ⟨h.A.keeps (S := fun _ => False) (.of_below hb) id, h.B.keeps (S := fun _ => False) (.of_below hb) id, h.C.keeps (S := fun _ => False) (.of_below hb) id⟩
theorem Three.facts {w2 : World} {g : Nat} {a b c d x y : Int} (h : Three w2 g a b c d x y) : (w2.cell? ⟨g, 0, none⟩ = some (.int .i64 a) ∧ w2.cell? ⟨g, 1, none⟩ = some (.int .i64 b)) ∧ (w2.cell? ⟨g + 1, 0, none⟩ = some (.int .i64 c) ∧ w2.cell? ⟨g + 1, 1, none⟩ = some (.int .i64 d)) ∧ (w2.cell? ⟨g + 1 + 1, 0, none⟩ = some (.int .i64 x) ∧ w2.cell? ⟨g + 1 + 1, 1, none⟩ = some (.int .i64 y)) ∧ g < w2.heap.size ∧ g + 1 < w2.heap.size ∧ g + 1 + 1 < w2.heap.size :=
  ⟨h.A.c2, h.B.c2, h.C.c2, h.A.lt, h.B.lt, h.C.lt⟩
theorem three_new (w : World) (a b c d x y : Int) : Three (((w.alloc (.cells #[.int .i64 a, .int .i64 b] 23)).alloc (.cells #[.int .i64 c, .int .i64 d] 23)).alloc (.cells #[.int .i64 x, .int .i64 y] 23)) w.heap.size a b c d x y :=
  ⟨by repeat (first | exact Blk.new' (by simp) | refine Blk.alloc ?_ _), by repeat (first | exact Blk.new' (by simp) | refine Blk.alloc ?_ _), by repeat (first | exact Blk.new' (by simp) | refine Blk.alloc ?_ _)⟩
theorem before_below (a b c d : Int) (w : World) : Calls Try.prog 24 #[.agg #[.int .i64 a, .int .i64 b], .agg #[.int .i64 c, .int .i64 d]] w fun e w' => e = .returned (.bool (befS a b c d)) ∧ Below w.heap.size w w' := by
  refine (before_any a b c d w).mono ?_
  rintro e w' ⟨rfl, rfl⟩
  refine ⟨rfl, ?_⟩
  split <;> repeat (first | exact Below.refl _ _ | refine below_alloc_ ?_ _ | refine Below.drew ?_)
theorem befS_irrefl (a b : Int) : befS a b a b = false := by
  cases h : isS a b
  · simp [befS, h]
  · have := isS_iff.1 h; simp [befS, h]; omega
theorem befS_asymm {a b c d : Int} (h : befS a b c d = true) : befS c d a b = false := by
  simp only [befS, Bool.and_eq_true, decide_eq_true_eq] at h
  have h1 := isS_iff.1 h.1.1; have h2 := isS_iff.1 h.1.2
  simp [befS]; intros; omega
theorem befS_trans {a b c d x y : Int} (h : befS a b c d = true) (k : befS c d x y = true) : befS a b x y = true := by
  simp only [befS, Bool.and_eq_true, decide_eq_true_eq] at h k ⊢
  have h2 := isS_iff.1 h.1.2
  exact ⟨⟨h.1.1, k.1.2⟩, by omega⟩
set_option maxHeartbeats 1000000 in
theorem spanGoes_walk (w : World) (a b : Int) (wa : (Lit.int .i64 a).wf = true) (wb : (Lit.int .i64 b).wf = true) (c d : Int) (wc : (Lit.int .i64 c).wf = true) (wd : (Lit.int .i64 d).wf = true) (x y : Int) (wx : (Lit.int .i64 x).wf = true) (wy : (Lit.int .i64 y).wf = true) :
    Calls Try.prog 9 #[.agg #[.int .i64 a, .int .i64 b], .agg #[.int .i64 c, .int .i64 d], .agg #[.int .i64 x, .int .i64 y]] w fun e w' => e = .returned (.bool true) ∧ Below w.heap.size w w' := by
  clear wa wb wc wd wx wy
  have H0 := Lib.hid (befS_irrefl a b)
  rcases (show befS a b c d = false ∨ (befS a b c d = true ∧ befS c d a b = false ∧ befS c d x y = false) ∨ (befS a b c d = true ∧ befS c d a b = false ∧ befS c d x y = true ∧ befS a b x y = true) by
    cases h : befS a b c d
    · exact .inl rfl
    · cases k : befS c d x y
      · exact .inr (.inl ⟨rfl, befS_asymm h, rfl⟩)
      · exact .inr (.inr ⟨rfl, befS_asymm h, rfl, befS_trans h k⟩)) with h | ⟨h, k, l⟩ | ⟨h, k, l, m⟩
  · have HH := Lib.hid h; clear h
    go_enter Try.func9, Try.ntmps9
    go_wp2_with (first
      | (go_at_call 15; refine (awake05_any _).mono ?_; rintro e w5 ⟨rfl, hb⟩; have T := Lib.hid ((three_new w a b c d x y).pass hb); obtain ⟨⟨q1, q2⟩, ⟨q3, q4⟩, ⟨q5, q6⟩, q7, q8, q9⟩ := T.out.facts; have HB : Hid (Below w.heap.size w w5) := Lib.hid (below_then (by repeat (first | exact Below.refl _ _ | refine below_alloc_ ?_ _ | refine Below.drew ?_)) hb); clear hb)
      | (go_at_call 24; refine (before_below _ _ _ _ _).mono ?_; rintro e w5 ⟨rfl, hb⟩; (first | rw [H0.out] | rw [HH.out]); replace T := Lib.hid (T.out.pass hb); clear q1 q2 q3 q4 q5 q6 q7 q8 q9; obtain ⟨⟨q1, q2⟩, ⟨q3, q4⟩, ⟨q5, q6⟩, q7, q8, q9⟩ := T.out.facts; replace HB : Hid (Below w.heap.size w w5) := Lib.hid (below_then HB.out hb); clear hb))
    clear q1 q2 q3 q4 q5 q6 q7 q8 q9
    go_ret
    exact ⟨rfl, HB.out⟩
  · have HH := Lib.hid h; have HK := Lib.hid k; have HL := Lib.hid l; clear h k l
    go_enter Try.func9, Try.ntmps9
    go_wp2_with (first
      | (go_at_call 15; refine (awake05_any _).mono ?_; rintro e w5 ⟨rfl, hb⟩; have T := Lib.hid ((three_new w a b c d x y).pass hb); obtain ⟨⟨q1, q2⟩, ⟨q3, q4⟩, ⟨q5, q6⟩, q7, q8, q9⟩ := T.out.facts; have HB : Hid (Below w.heap.size w w5) := Lib.hid (below_then (by repeat (first | exact Below.refl _ _ | refine below_alloc_ ?_ _ | refine Below.drew ?_)) hb); clear hb)
      | (go_at_call 24; refine (before_below _ _ _ _ _).mono ?_; rintro e w5 ⟨rfl, hb⟩; (first | rw [H0.out] | rw [HH.out] | rw [HK.out] | rw [HL.out]); replace T := Lib.hid (T.out.pass hb); clear q1 q2 q3 q4 q5 q6 q7 q8 q9; obtain ⟨⟨q1, q2⟩, ⟨q3, q4⟩, ⟨q5, q6⟩, q7, q8, q9⟩ := T.out.facts; replace HB : Hid (Below w.heap.size w w5) := Lib.hid (below_then HB.out hb); clear hb))
    clear q1 q2 q3 q4 q5 q6 q7 q8 q9
    go_ret
    exact ⟨rfl, HB.out⟩
  · have HH := Lib.hid h; have HK := Lib.hid k; have HL := Lib.hid l; have HM := Lib.hid m; clear h k l m
    go_enter Try.func9, Try.ntmps9
    go_wp2_with (first
      | (go_at_call 15; refine (awake05_any _).mono ?_; rintro e w5 ⟨rfl, hb⟩; have T := Lib.hid ((three_new w a b c d x y).pass hb); obtain ⟨⟨q1, q2⟩, ⟨q3, q4⟩, ⟨q5, q6⟩, q7, q8, q9⟩ := T.out.facts; have HB : Hid (Below w.heap.size w w5) := Lib.hid (below_then (by repeat (first | exact Below.refl _ _ | refine below_alloc_ ?_ _ | refine Below.drew ?_)) hb); clear hb)
      | (go_at_call 24; refine (before_below _ _ _ _ _).mono ?_; rintro e w5 ⟨rfl, hb⟩; (first | rw [H0.out] | rw [HH.out] | rw [HK.out] | rw [HL.out] | rw [HM.out]); replace T := Lib.hid (T.out.pass hb); clear q1 q2 q3 q4 q5 q6 q7 q8 q9; obtain ⟨⟨q1, q2⟩, ⟨q3, q4⟩, ⟨q5, q6⟩, q7, q8, q9⟩ := T.out.facts; replace HB : Hid (Below w.heap.size w w5) := Lib.hid (below_then HB.out hb); clear hb))
    clear q1 q2 q3 q4 q5 q6 q7 q8 q9
    go_ret
    exact ⟨rfl, HB.out⟩
end Go.Proofs.Ytnljmjibjjjelaa
