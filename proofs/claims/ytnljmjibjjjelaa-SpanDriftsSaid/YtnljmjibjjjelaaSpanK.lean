/- The chapter's example of spans. -/
import Derived.Test.YtnljmjibjjjelaaSpanJ
set_option linter.unusedSimpArgs false
set_option linter.unusedVariables false
namespace Go.Proofs.Ytnljmjibjjjelaa
open Go.RowKit Mo
theorem times_lit (w : World) : Calls Try.prog 30 #[.int .i64 (-1000), .float .f64 4562254508917369340] w fun e w' => e = .returned (.tuple #[.int .i64 (-2), .int .i64 0]) ∧ w = w' := by
  have := times_any (-1000) 4562254508917369340 w (by decide) (by decide) (by decide)
  have e1 : prodV (-1000) 4562254508917369340 false = -2 := by decide +kernel
  have e2 : prodE (-1000) 4562254508917369340 false = 0 := by decide +kernel
  rw [e1, e2] at this
  exact this
theorem class_lit (w : World) : Calls Try.prog 29 #[.float .f64 4562254508917369340] w fun e w' => e = .returned (.int .i64 5) ∧ w = w' := by
  have := class_any 4562254508917369340 w (by decide)
  have e1 : cls 4562254508917369340 = 5 := by decide +kernel
  rw [e1] at this
  exact this
set_option maxHeartbeats 1000000 in
theorem drift_lit (w : World) : Calls Try.prog 18 #[.agg #[.int .i64 100, .int .i64 100], .int .i64 1000, .float .f64 4562254508917369340] w fun e w' => e = .returned (.tuple #[.agg #[.int .i64 98, .int .i64 102], .int .i64 0]) ∧ w' = ((((((w.alloc (.cells #[.int .i64 100, .int .i64 100] 23)).alloc (.cells #[.int .i64 98, .int .i64 102] 23)).alloc (.cells #[.int .i64 100, .int .i64 100] 23)).alloc (.cells #[.int .i64 100, .int .i64 100] 23)).alloc (.cells #[.int .i64 98, .int .i64 102] 23)).alloc (.cells #[.int .i64 100, .int .i64 100] 23)) := by
  have hg : (FloatKind.f64.format.order 4562254508917369340 4607182418800017408 == some Ordering.gt) = false := by decide +kernel
  have hs : isS 100 100 = true := by decide
  have hw : WidIs 100 100 2 98 102 0 := .inr (.inr (.inr ⟨by decide, by decide, by decide, by decide, by decide, rfl⟩))
  have HW := Lib.hid hw; have HS := Lib.hid hs; clear hw hs
  go_enter Try.func18, Try.ntmps18
  go_wp2_with (first | (go_at_call 16; refine (check_any _ _ _).mono ?_; rintro e w1 ⟨rfl, rfl⟩; rw [HS.out]) | (go_at_call 27; go_in) | (go_at_call 29; refine (class_lit _).mono ?_; rintro e w1 ⟨rfl, rfl⟩) | (go_at_call 30; refine (times_lit _).mono ?_; rintro e w1 ⟨rfl, rfl⟩) | (go_at_call 12; refine (widen_any _ _ _ _ _ _ _ HW.out).mono ?_; rintro e w1 ⟨rfl, rfl⟩))
  refine bodyPost_ret (v := .tuple #[.agg #[.int .i64 98, .int .i64 102], .int .i64 0]) (by simp [results, Try.results18, go_sem]) rfl ⟨?_, ?_⟩
  · rfl
  · rfl
set_option maxHeartbeats 1000000 in
theorem around_any (t by_ A B E : Int) (w : World) (h : WidIs t t by_ A B E) :
    Calls Try.prog 14 #[.int .i64 t, .int .i64 by_] w fun e w' => e = .returned (.tuple #[.agg #[.int .i64 A, .int .i64 B], .int .i64 E]) ∧ w' = ((((w.alloc (.cells #[.int .i64 A, .int .i64 B] 23)).alloc (.cells #[.int .i64 t, .int .i64 t] 23)).alloc (.cells #[.int .i64 A, .int .i64 B] 23)).alloc (.cells #[.int .i64 t, .int .i64 t] 23)) := by
  have HW := Lib.hid h; clear h
  go_enter Try.func14, Try.ntmps14
  go_wp2_with (go_at_call 12; refine (widen_any _ _ _ _ _ _ _ HW.out).mono ?_; rintro e w1 ⟨rfl, rfl⟩)
  refine bodyPost_ret (v := .tuple #[.agg #[.int .i64 A, .int .i64 B], .int .i64 E]) (by simp [results, Try.results14, go_sem]) rfl ⟨?_, ?_⟩
  · rfl
  · rfl
theorem around_lit (w : World) : Calls Try.prog 14 #[.int .i64 10, .int .i64 3] w fun e w' => e = .returned (.tuple #[.agg #[.int .i64 7, .int .i64 13], .int .i64 0]) ∧ w' = ((((w.alloc (.cells #[.int .i64 7, .int .i64 13] 23)).alloc (.cells #[.int .i64 10, .int .i64 10] 23)).alloc (.cells #[.int .i64 7, .int .i64 13] 23)).alloc (.cells #[.int .i64 10, .int .i64 10] 23)) :=
  around_any 10 3 7 13 0 w (.inr (.inr (.inr ⟨by decide, by decide, by decide, by decide, by decide, rfl⟩)))
theorem meet_lit (w : World) : Calls Try.prog 20 #[.agg #[.int .i64 1, .int .i64 5], .agg #[.int .i64 4, .int .i64 9]] w fun e w' => e = .returned (.tuple #[.agg #[.int .i64 4, .int .i64 5], .bool true]) ∧ w' = (((((((w.alloc (.cells #[.int .i64 1, .int .i64 5] 23)).alloc (.cells #[.int .i64 4, .int .i64 9] 23)).alloc (.cells #[.int .i64 4, .int .i64 5] 23)).alloc (.cells #[.int .i64 4, .int .i64 5] 23)).alloc (.cells #[.int .i64 1, .int .i64 5] 23)).alloc (.cells #[.int .i64 4, .int .i64 9] 23)).alloc (.cells #[.int .i64 4, .int .i64 5] 23)) :=
  meet_any 1 5 4 9 w (by decide) (by decide) (by decide) (by decide) (by decide) (by decide) (by decide) (by decide)
theorem has_lit (w : World) : Calls Try.prog 22 #[.agg #[.int .i64 7, .int .i64 13], .int .i64 7] w fun e w' => e = .returned (.bool true) ∧ w' = ((w.alloc (.cells #[.int .i64 7, .int .i64 13] 23)).alloc (.cells #[.int .i64 7, .int .i64 13] 23)) :=
  has_any 7 13 7 w
theorem before_lit (w : World) : Calls Try.prog 24 #[.agg #[.int .i64 4, .int .i64 5], .agg #[.int .i64 1, .int .i64 9]] w fun e w' => e = .returned (.bool false) ∧ w' = ((((w.alloc (.cells #[.int .i64 4, .int .i64 5] 23)).alloc (.cells #[.int .i64 1, .int .i64 9] 23)).alloc (.cells #[.int .i64 4, .int .i64 5] 23)).alloc (.cells #[.int .i64 1, .int .i64 9] 23)) :=
  before_any 4 5 1 9 w
theorem check_lit (w : World) : Calls Try.prog 16 #[.agg #[.int .i64 2, .int .i64 1]] w fun e w' => e = .returned (.int .i64 50) ∧ w' = (w.alloc (.cells #[.int .i64 2, .int .i64 1] 23)) :=
  check_any 2 1 w
theorem join_lit (w : World) (t : TypeId) (b : Nat) (hb : w.heap.size = b) : Calls Try.prog 25 #[.slice (some ⟨b, 0, none⟩) 2 2] (w.alloc (.cells #[.int .i64 1, .int .i64 2, .int .i64 8, .int .i64 9] t)) fun e w' => e = .returned (.tuple #[.agg #[.int .i64 1, .int .i64 9], .bool true]) ∧ Below (w.alloc (.cells #[.int .i64 1, .int .i64 2, .int .i64 8, .int .i64 9] t)).heap.size (w.alloc (.cells #[.int .i64 1, .int .i64 2, .int .i64 8, .int .i64 9] t)) w' := by
  subst hb
  have hr : Reads (w.alloc (.cells #[.int .i64 1, .int .i64 2, .int .i64 8, .int .i64 9] t)) (w.alloc (.cells #[.int .i64 1, .int .i64 2, .int .i64 8, .int .i64 9] t)).heap.size 2 (some ⟨w.heap.size, 0, none⟩) ([⟨1, 2⟩, ⟨8, 9⟩] : List VSpan).length (([⟨1, 2⟩, ⟨8, 9⟩] : List VSpan).flatMap VSpan.cells) :=
    ⟨rfl, fun _ => ⟨_, rfl, by simp, fun j u hu => by
      rw [Addr.add_lit, World.cell?_alloc_new]
      match j, hu with
      | 0, hu => simpa [VSpan.cells] using hu
      | 1, hu => simpa [VSpan.cells] using hu
      | 2, hu => simpa [VSpan.cells] using hu
      | 3, hu => simpa [VSpan.cells] using hu
      | j + 4, hu => simp [VSpan.cells] at hu⟩⟩
  exact join_any _ _ 2 [⟨1, 2⟩, ⟨8, 9⟩] hr (by decide) (by intro u hu; simp at hu; rcases hu with rfl | rfl <;> exact ⟨by decide, by decide⟩)
set_option maxHeartbeats 1000000 in
theorem awake05_any (w : World) : Calls Try.prog 15 #[] w fun e w' => e = .returned (.bool true) ∧ Below w.heap.size w w' := by
  go_enter Try.func15, Try.ntmps15
  go_wp2_with (first | (go_at_call 14; refine (around_lit _).mono ?_; rintro e w1 ⟨rfl, rfl⟩) | (go_at_call 18; refine (drift_lit _).mono ?_; rintro e w1 ⟨rfl, rfl⟩) | (go_at_call 20; refine (meet_lit _).mono ?_; rintro e w1 ⟨rfl, rfl⟩))
  refine (join_lit _ _ _ (by simp)).mono ?_
  rintro e w1 ⟨rfl, hb⟩
  have QA : Blk w1 (w.heap.size + 1 + 1 + 1 + 1) 23 #[.int .i64 7, .int .i64 13] := Blk.keeps (S := fun _ => False) (by repeat (first | exact Blk.new' (by simp) | refine Blk.alloc ?_ _)) (.of_below hb) id
  obtain ⟨qa0, qa1⟩ := QA.c2
  have QB : Blk w1 (w.heap.size + 1 + 1 + 1 + 1 + 1 + 1 + 1 + 1 + 1 + 1 + 1) 23 #[.int .i64 98, .int .i64 102] := Blk.keeps (S := fun _ => False) (by repeat (first | exact Blk.new' (by simp) | refine Blk.alloc ?_ _)) (.of_below hb) id
  obtain ⟨qb0, qb1⟩ := QB.c2
  have QC : Blk w1 (w.heap.size + 1 + 1 + 1 + 1 + 1 + 1 + 1 + 1 + 1 + 1 + 1 + 1 + 1 + 1 + 1 + 1 + 1 + 1 + 1) 23 #[.int .i64 4, .int .i64 5] := Blk.keeps (S := fun _ => False) (by repeat (first | exact Blk.new' (by simp) | refine Blk.alloc ?_ _)) (.of_below hb) id
  obtain ⟨qc0, qc1⟩ := QC.c2
  clear QA QB QC
  have hs1 := hb.size
  simp at hs1
  have g1 : w.heap.size + 1 + 1 + 1 + 1 < w1.heap.size := by omega
  have g2 : w.heap.size + 1 + 1 + 1 + 1 + 1 + 1 + 1 + 1 + 1 + 1 + 1 < w1.heap.size := by omega
  have g3 : w.heap.size + 1 + 1 + 1 + 1 + 1 + 1 + 1 + 1 + 1 + 1 + 1 + 1 + 1 + 1 + 1 + 1 + 1 + 1 + 1 < w1.heap.size := by omega
  have gx1 : w.heap.size + 1 < w1.heap.size := by omega
  have gx2 : w.heap.size + 1 + 1 < w1.heap.size := by omega
  have gx3 : w.heap.size + 1 + 1 + 1 < w1.heap.size := by omega
  have gx8 : w.heap.size + 1 + 1 + 1 + 1 + 1 + 1 + 1 + 1 < w1.heap.size := by omega
  have gx9 : w.heap.size + 1 + 1 + 1 + 1 + 1 + 1 + 1 + 1 + 1 < w1.heap.size := by omega
  have gx10 : w.heap.size + 1 + 1 + 1 + 1 + 1 + 1 + 1 + 1 + 1 + 1 < w1.heap.size := by omega
  have gx14 : w.heap.size + 1 + 1 + 1 + 1 + 1 + 1 + 1 + 1 + 1 + 1 + 1 + 1 + 1 + 1 < w1.heap.size := by omega
  have gx15 : w.heap.size + 1 + 1 + 1 + 1 + 1 + 1 + 1 + 1 + 1 + 1 + 1 + 1 + 1 + 1 + 1 < w1.heap.size := by omega
  have gx16 : w.heap.size + 1 + 1 + 1 + 1 + 1 + 1 + 1 + 1 + 1 + 1 + 1 + 1 + 1 + 1 + 1 + 1 < w1.heap.size := by omega
  have gx17 : w.heap.size + 1 + 1 + 1 + 1 + 1 + 1 + 1 + 1 + 1 + 1 + 1 + 1 + 1 + 1 + 1 + 1 + 1 < w1.heap.size := by omega
  have gx18 : w.heap.size + 1 + 1 + 1 + 1 + 1 + 1 + 1 + 1 + 1 + 1 + 1 + 1 + 1 + 1 + 1 + 1 + 1 + 1 < w1.heap.size := by omega
  clear hs1
  have HB := Lib.hid hb; clear hb
  go_wp2_with (first | (go_at_call 22; refine (has_lit _).mono ?_; rintro e w1 ⟨rfl, rfl⟩) | (go_at_call 24; refine (before_lit _).mono ?_; rintro e w1 ⟨rfl, rfl⟩) | (go_at_call 16; refine (check_lit _).mono ?_; rintro e w1 ⟨rfl, rfl⟩))
  clear qa0 qa1 qb0 qb1 qc0 qc1
  go_ret
  refine ⟨rfl, below_then (below_then ?_ HB.out) ?_⟩
  all_goals repeat (first | refine below_alloc_ ?_ _ | exact Below.refl _ _)
end Go.Proofs.Ytnljmjibjjjelaa
