/- Contracts of the span package's functions in the form that leaves the memory unsaid. -/
import Derived.Test.YtnljmjibjjjelaaSpanG
import Derived.Deep.RegionHeld3
set_option linter.unusedSimpArgs false
set_option linter.unusedVariables false
namespace Go.Proofs.Ytnljmjibjjjelaa
open Go.RowKit Mo
theorem blk_facts {w : World} {g : Nat} {t : TypeId} {a b : Value} (h : Blk w g t #[a, b]) : (w.cell? ⟨g, 0, none⟩ = some a ∧ w.cell? ⟨g, 1, none⟩ = some b) ∧ g < w.heap.size := ⟨h.c2, h.lt⟩
theorem blk_pass {w1 w2 w3 : World} {g : Nat} {t : TypeId} {cs : Array Value} (h : Blk w1 g t cs) (k : Below w1.heap.size w1 w2) (hb : Below w2.heap.size w2 w3) : Blk w3 g t cs :=
  (h.keeps (S := fun _ => False) (.of_below k) id).keeps (S := fun _ => False) (.of_below hb) id
theorem has_below (a b t : Int) (w : World) : Calls Try.prog 22 #[.agg #[.int .i64 a, .int .i64 b], .int .i64 t] w fun e w' => e = .returned (.bool (hasS a b t)) ∧ Below w.heap.size w w' := by
  refine (has_any a b t w).mono ?_
  rintro e w' ⟨rfl, rfl⟩
  exact ⟨rfl, by repeat (first | exact Below.refl _ _ | refine below_alloc_ ?_ _ | refine Below.drew ?_)⟩
theorem rhas_below (a b t : Int) (w : World) : Calls Try.prog 23 #[.agg #[.int .i64 a, .int .i64 b], .int .i64 t] w fun e w' => e = .returned (.bool (hasS a b t)) ∧ Below w.heap.size w w' := by
  refine (rhas_any a b t w).mono ?_
  rintro e w' ⟨rfl, rfl⟩
  exact ⟨rfl, by repeat (first | exact Below.refl _ _ | refine below_alloc_ ?_ _ | refine Below.drew ?_)⟩
theorem is_below (a b : Int) (w : World) : Calls Try.prog 17 #[.agg #[.int .i64 a, .int .i64 b]] w fun e w' => e = .returned (.bool (isS a b)) ∧ Below w.heap.size w w' := by
  refine (is_any a b w).mono ?_
  rintro e w' ⟨rfl, rfl⟩
  exact ⟨rfl, by repeat (first | exact Below.refl _ _ | refine below_alloc_ ?_ _ | refine Below.drew ?_)⟩
theorem check_yes (a b : Int) (w : World) (h : isS a b = true) : Calls Try.prog 16 #[.agg #[.int .i64 a, .int .i64 b]] w fun e w' => e = .returned (.int .i64 0) ∧ Below w.heap.size w w' := by
  refine (check_any a b w).mono ?_
  rintro e w' ⟨rfl, rfl⟩
  exact ⟨by rw [h]; rfl, by repeat (first | exact Below.refl _ _ | refine below_alloc_ ?_ _ | refine Below.drew ?_)⟩
theorem check_no (a b : Int) (w : World) (h : isS a b = false) : Calls Try.prog 16 #[.agg #[.int .i64 a, .int .i64 b]] w fun e w' => e = .returned (.int .i64 50) ∧ Below w.heap.size w w' := by
  refine (check_any a b w).mono ?_
  rintro e w' ⟨rfl, rfl⟩
  exact ⟨by rw [h]; rfl, by repeat (first | exact Below.refl _ _ | refine below_alloc_ ?_ _ | refine Below.drew ?_)⟩
theorem check_below (a b : Int) (w : World) : Calls Try.prog 16 #[.agg #[.int .i64 a, .int .i64 b]] w fun e w' => e = .returned (.int .i64 (if isS a b then 0 else 50)) ∧ Below w.heap.size w w' := by
  refine (check_any a b w).mono ?_
  rintro e w' ⟨rfl, rfl⟩
  exact ⟨rfl, by repeat (first | exact Below.refl _ _ | refine below_alloc_ ?_ _ | refine Below.drew ?_)⟩
/-- what two spans have both: the outcome -/
def MeetIs (a b c d A B : Int) (k : Bool) : Prop := meetOk a b c d = k ∧ A = (if meetOk a b c d then max a c else 0) ∧ B = (if meetOk a b c d then min b d else 0)
theorem bnd64 {z : Int} (h : (Lit.int .i64 z).wf = true) : -9223372036854775808 ≤ z ∧ z ≤ 9223372036854775807 := i64_wf h
theorem meet_below (a b c d A B : Int) (k : Bool) (w : World) (h : MeetIs a b c d A B k) (wa : (Lit.int .i64 a).wf = true) (wb : (Lit.int .i64 b).wf = true) (wc : (Lit.int .i64 c).wf = true) (wd : (Lit.int .i64 d).wf = true) :
    Calls Try.prog 20 #[.agg #[.int .i64 a, .int .i64 b], .agg #[.int .i64 c, .int .i64 d]] w fun e w' => e = .returned (.tuple #[.agg #[.int .i64 A, .int .i64 B], .bool k]) ∧ Below w.heap.size w w' := by
  obtain ⟨h1, h2, h3⟩ := h
  refine (meet_any a b c d w (bnd64 wa).1 (bnd64 wa).2 (bnd64 wb).1 (bnd64 wb).2 (bnd64 wc).1 (bnd64 wc).2 (bnd64 wd).1 (bnd64 wd).2).mono ?_
  rintro e w' ⟨rfl, rfl⟩
  refine ⟨by rw [h1] at h2 h3 ⊢; rw [h2, h3], ?_⟩
  cases isS a b <;> cases isS c d
  all_goals (simp only [if_true, if_false, Bool.false_eq_true]; repeat (first | exact Below.refl _ _ | refine below_alloc_ ?_ _ | refine Below.drew ?_))
theorem meet_of (a b c d : Int) : ∃ A B k, MeetIs a b c d A B k := ⟨_, _, _, rfl, rfl, rfl⟩
theorem widen_below (lo hi by_ A B E : Int) (w : World) (h : WidIs lo hi by_ A B E) : Calls Try.prog 12 #[.agg #[.int .i64 lo, .int .i64 hi], .int .i64 by_] w fun e w' => e = .returned (.tuple #[.agg #[.int .i64 A, .int .i64 B], .int .i64 E]) ∧ Below w.heap.size w w' := by
  refine (widen_any lo hi by_ A B E w h).mono ?_
  rintro e w' ⟨rfl, rfl⟩
  exact ⟨rfl, by repeat (first | exact Below.refl _ _ | refine below_alloc_ ?_ _ | refine Below.drew ?_)⟩
theorem around_below (t by_ A B E : Int) (w : World) (h : WidIs t t by_ A B E) : Calls Try.prog 14 #[.int .i64 t, .int .i64 by_] w fun e w' => e = .returned (.tuple #[.agg #[.int .i64 A, .int .i64 B], .int .i64 E]) ∧ Below w.heap.size w w' := by
  refine (around_any t by_ A B E w h).mono ?_
  rintro e w' ⟨rfl, rfl⟩
  exact ⟨rfl, by repeat (first | exact Below.refl _ _ | refine below_alloc_ ?_ _ | refine Below.drew ?_)⟩
theorem rwiden_below (lo hi by_ A B E : Int) (w : World) (h : WidIs lo hi by_ A B E) : Calls Try.prog 13 #[.agg #[.int .i64 lo, .int .i64 hi], .int .i64 by_] w fun e w' => e = .returned (.tuple #[.agg #[.int .i64 A, .int .i64 B], .int .i64 E]) ∧ Below w.heap.size w w' := by
  rcases h with ⟨hs, rfl, rfl, rfl⟩ | ⟨hs, h, rfl, rfl, rfl⟩ | ⟨hs, h, rfl, rfl, rfl⟩ | ⟨hs, h1, h2, hA, hB, rfl⟩
  · refine (rwiden_bad lo hi by_ 50 w (.inl ⟨hs, rfl⟩)).mono ?_
    rintro e w' ⟨rfl, rfl⟩
    exact ⟨rfl, by repeat (first | exact Below.refl _ _ | refine below_alloc_ ?_ _ | refine Below.drew ?_)⟩
  · refine (rwiden_bad lo hi by_ 52 w (.inr (.inl ⟨hs, h, rfl⟩))).mono ?_
    rintro e w' ⟨rfl, rfl⟩
    exact ⟨rfl, by repeat (first | exact Below.refl _ _ | refine below_alloc_ ?_ _ | refine Below.drew ?_)⟩
  · refine (rwiden_bad lo hi by_ 52 w (.inr (.inr ⟨hs, h, rfl⟩))).mono ?_
    rintro e w' ⟨rfl, rfl⟩
    exact ⟨rfl, by repeat (first | exact Below.refl _ _ | refine below_alloc_ ?_ _ | refine Below.drew ?_)⟩
  · refine (rwiden_ok lo hi by_ A B w hs h1 h2 hA hB).mono ?_
    rintro e w' ⟨rfl, rfl⟩
    exact ⟨rfl, by repeat (first | exact Below.refl _ _ | refine below_alloc_ ?_ _ | refine Below.drew ?_)⟩
theorem below_cell {w1 w2 : World} {p : Addr} {v : Value} (h : w1.cell? p = some v) (hb : Below w1.heap.size w1 w2) : w2.cell? p = some v :=
  (hb.cell (World.block_lt_of_cell? w1 p h)).trans h
theorem keep2 {w w1 w2 : World} {p0 p1 : Addr} {v0 v1 : Value} (h : w1.cell? p0 = some v0 ∧ w1.cell? p1 = some v1 ∧ Hid (Below w.heap.size w w1)) (hb : Below w1.heap.size w1 w2) : w2.cell? p0 = some v0 ∧ w2.cell? p1 = some v1 ∧ Hid (Below w.heap.size w w2) := by
  obtain ⟨h0, h1, hB⟩ := h
  exact ⟨below_cell h0 hb, below_cell h1 hb, Lib.hid (below_then hB.out hb)⟩
theorem keep4 {w w1 w2 : World} {p0 p1 p2 p3 : Addr} {v0 v1 v2 v3 : Value} (h : w1.cell? p0 = some v0 ∧ w1.cell? p1 = some v1 ∧ w1.cell? p2 = some v2 ∧ w1.cell? p3 = some v3 ∧ Hid (Below w.heap.size w w1)) (hb : Below w1.heap.size w1 w2) : w2.cell? p0 = some v0 ∧ w2.cell? p1 = some v1 ∧ w2.cell? p2 = some v2 ∧ w2.cell? p3 = some v3 ∧ Hid (Below w.heap.size w w2) := by
  obtain ⟨h0, h1, h2, h3, hB⟩ := h
  exact ⟨below_cell h0 hb, below_cell h1 hb, below_cell h2 hb, below_cell h3 hb, Lib.hid (below_then hB.out hb)⟩
theorem keep6 {w w1 w2 : World} {p0 p1 p2 p3 p4 p5 : Addr} {v0 v1 v2 v3 v4 v5 : Value} (h : w1.cell? p0 = some v0 ∧ w1.cell? p1 = some v1 ∧ w1.cell? p2 = some v2 ∧ w1.cell? p3 = some v3 ∧ w1.cell? p4 = some v4 ∧ w1.cell? p5 = some v5 ∧ Hid (Below w.heap.size w w1)) (hb : Below w1.heap.size w1 w2) : w2.cell? p0 = some v0 ∧ w2.cell? p1 = some v1 ∧ w2.cell? p2 = some v2 ∧ w2.cell? p3 = some v3 ∧ w2.cell? p4 = some v4 ∧ w2.cell? p5 = some v5 ∧ Hid (Below w.heap.size w w2) := by
  obtain ⟨h0, h1, h2, h3, h4, h5, hB⟩ := h
  exact ⟨below_cell h0 hb, below_cell h1 hb, below_cell h2 hb, below_cell h3 hb, below_cell h4 hb, below_cell h5 hb, Lib.hid (below_then hB.out hb)⟩
theorem keep8 {w w1 w2 : World} {p0 p1 p2 p3 p4 p5 p6 p7 : Addr} {v0 v1 v2 v3 v4 v5 v6 v7 : Value} (h : w1.cell? p0 = some v0 ∧ w1.cell? p1 = some v1 ∧ w1.cell? p2 = some v2 ∧ w1.cell? p3 = some v3 ∧ w1.cell? p4 = some v4 ∧ w1.cell? p5 = some v5 ∧ w1.cell? p6 = some v6 ∧ w1.cell? p7 = some v7 ∧ Hid (Below w.heap.size w w1)) (hb : Below w1.heap.size w1 w2) : w2.cell? p0 = some v0 ∧ w2.cell? p1 = some v1 ∧ w2.cell? p2 = some v2 ∧ w2.cell? p3 = some v3 ∧ w2.cell? p4 = some v4 ∧ w2.cell? p5 = some v5 ∧ w2.cell? p6 = some v6 ∧ w2.cell? p7 = some v7 ∧ Hid (Below w.heap.size w w2) := by
  obtain ⟨h0, h1, h2, h3, h4, h5, h6, h7, hB⟩ := h
  exact ⟨below_cell h0 hb, below_cell h1 hb, below_cell h2 hb, below_cell h3 hb, below_cell h4 hb, below_cell h5 hb, below_cell h6 hb, below_cell h7 hb, Lib.hid (below_then hB.out hb)⟩
theorem keep10 {w w1 w2 : World} {p0 p1 p2 p3 p4 p5 p6 p7 p8 p9 : Addr} {v0 v1 v2 v3 v4 v5 v6 v7 v8 v9 : Value} (h : w1.cell? p0 = some v0 ∧ w1.cell? p1 = some v1 ∧ w1.cell? p2 = some v2 ∧ w1.cell? p3 = some v3 ∧ w1.cell? p4 = some v4 ∧ w1.cell? p5 = some v5 ∧ w1.cell? p6 = some v6 ∧ w1.cell? p7 = some v7 ∧ w1.cell? p8 = some v8 ∧ w1.cell? p9 = some v9 ∧ Hid (Below w.heap.size w w1)) (hb : Below w1.heap.size w1 w2) : w2.cell? p0 = some v0 ∧ w2.cell? p1 = some v1 ∧ w2.cell? p2 = some v2 ∧ w2.cell? p3 = some v3 ∧ w2.cell? p4 = some v4 ∧ w2.cell? p5 = some v5 ∧ w2.cell? p6 = some v6 ∧ w2.cell? p7 = some v7 ∧ w2.cell? p8 = some v8 ∧ w2.cell? p9 = some v9 ∧ Hid (Below w.heap.size w w2) := by
  obtain ⟨h0, h1, h2, h3, h4, h5, h6, h7, h8, h9, hB⟩ := h
  exact ⟨below_cell h0 hb, below_cell h1 hb, below_cell h2 hb, below_cell h3 hb, below_cell h4 hb, below_cell h5 hb, below_cell h6 hb, below_cell h7 hb, below_cell h8 hb, below_cell h9 hb, Lib.hid (below_then hB.out hb)⟩
end Go.Proofs.Ytnljmjibjjjelaa
