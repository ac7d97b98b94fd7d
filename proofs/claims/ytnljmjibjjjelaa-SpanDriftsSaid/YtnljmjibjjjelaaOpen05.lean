/- Arguments laid open (printed by a program of ours). -/
import Derived.Test.YtnljmjibjjjelaaOpenA
set_option linter.unusedSimpArgs false
set_option linter.unusedVariables false
namespace Go.Proofs.Ytnljmjibjjjelaa
open Go.ChangeShapes Go.WideShapes Go.ChangeAt Go.RowKit Go.Joins
/-- a api.Span -/
structure VSpan where
  lo : Int
  hi : Int
def VSpan.cells (x : VSpan) : List Value := [.int .i64 x.lo, .int .i64 x.hi]
def VSpan.ok (w : World) (x : VSpan) : Prop := (Lit.int .i64 x.lo).wf = true ∧ (Lit.int .i64 x.hi).wf = true
/-- a moietylaw05.Time -/
structure VTime where
  early : Int
  late : Int
  rate : Nat
def VTime.cells (x : VTime) : List Value := [.int .i64 x.early, .int .i64 x.late, .float .f64 x.rate]
def VTime.ok (w : World) (x : VTime) : Prop := (Lit.int .i64 x.early).wf = true ∧ (Lit.int .i64 x.late).wf = true ∧ (Lit.float .f64 x.rate).wf = true
theorem tc_int64 {H : Type} {enc : TypeId × Value → H} {w : World} {base : Nat} {spare : Nat → Bool} {held : Bool} {n : Nat} {cs : List Value} {y : DataW H × List MemPlace} (h : DataW.trod enc Try.prog w base spare held n 2 cs = some y) : ∃ (z : Int), cs = [.int .i64 z] ∧ (Lit.int .i64 z).wf = true := by
  obtain ⟨z, e, _, hw⟩ := DataW.trod_int Try.underlying2 h
  exact ⟨z, e, hw⟩
set_option maxRecDepth 100000 in
theorem tc_Span {H : Type} {enc : TypeId × Value → H} {w : World} {base : Nat} {spare : Nat → Bool} {held : Bool} {n : Nat} {cs : List Value} {y : DataW H × List MemPlace} (h : DataW.trod enc Try.prog w base spare held n 23 cs = some y) : ∃ (lo : Int) (hi : Int), cs = [.int .i64 lo, .int .i64 hi] ∧ (Lit.int .i64 lo).wf = true ∧ (Lit.int .i64 hi).wf = true := by
  obtain ⟨ys, n', _, _, hl, hy, hf⟩ := DataW.trod_struct Try.underlying23 h
  rw [show Try.prog.cellsOf 23 = 2 from by kernel_rfl] at hl
  match cs, hl with
  | [c0, c1], _ =>
    have g0 := hf 0 _ rfl
    have k0 : Try.prog.cellsOf 2 = 1 := by kernel_rfl
    have e0 : ys[0]? = some (ys[0]'(by rw [hy]; decide)) := List.getElem?_eq_getElem _
    replace g0 : DataW.trod enc Try.prog w base spare held n' 2 [c0] = some (ys[0]'(by rw [hy]; decide)) := by rw [← e0, ← g0]; show _ = DataW.trod _ _ _ _ _ _ _ 2 ((List.drop 0 [c0, c1]).take (Try.prog.cellsOf 2)); rw [k0]; rfl
    obtain ⟨q0, r0, h0_0⟩ := tc_int64 g0
    simp only [List.cons.injEq, and_true] at r0
    have g1 := hf 1 _ rfl
    have k1 : Try.prog.cellsOf 2 = 1 := by kernel_rfl
    have e1 : ys[1]? = some (ys[1]'(by rw [hy]; decide)) := List.getElem?_eq_getElem _
    replace g1 : DataW.trod enc Try.prog w base spare held n' 2 [c1] = some (ys[1]'(by rw [hy]; decide)) := by rw [← e1, ← g1]; show _ = DataW.trod _ _ _ _ _ _ _ 2 ((List.drop 1 [c0, c1]).take (Try.prog.cellsOf 2)); rw [k1]; rfl
    obtain ⟨q1, r1, h1_0⟩ := tc_int64 g1
    simp only [List.cons.injEq, and_true] at r1
    exact ⟨q0, q1, by simp [r0, r1], h0_0, h1_0⟩
set_option maxRecDepth 100000 in
theorem open_span {H : Type} {enc : TypeId × Value → H} {w : World} {base : Nat} {spare : Nat → Bool} {held : Bool} {r : Reach} {b0 : Nat} {v : Value} {d : DataW H} {p : List MemPlace} (hv : Value.okWide Try.prog w r b0 23 v) (h : DataW.Trod enc Try.prog w base spare held 23 v d p) :
    ∃ (lo : Int) (hi : Int), v = .agg #[.int .i64 lo, .int .i64 hi] ∧ (Lit.int .i64 lo).wf = true ∧ (Lit.int .i64 hi).wf = true := by
  obtain ⟨cs, rfl, _⟩ := okWide_struct Try.underlying23 hv
  obtain ⟨fuel, hf⟩ := h
  obtain ⟨lo, hi, e, hw⟩ := tc_Span hf
  refine ⟨lo, hi, ?_, hw⟩
  obtain ⟨l⟩ := cs
  simp only [Value.cells] at e
  rw [show l = _ from e]
set_option maxRecDepth 100000 in
theorem tc_SlSpan {H : Type} {enc : TypeId × Value → H} {w : World} {base : Nat} {spare : Nat → Bool} {held : Bool} {n : Nat} {cs : List Value} {y : DataW H × List MemPlace} (h : DataW.trod enc Try.prog w base spare held n 40 cs = some y) : ∃ (zA : Option Addr) (zC : Nat) (z : List VSpan), cs = [.slice zA z.length zC] ∧ SlOk w 2 zA zC (z.flatMap VSpan.cells) ∧ z.length ≤ zC ∧ zC ≤ maxLen ∧ ∀ u_ ∈ z, VSpan.ok w u_ := by
  obtain ⟨A, c, xs, hcs, hs, hl, hm, hx⟩ := slice_open (E := VSpan) (size := 2) (ce := fun x => VSpan.cells x) (ok := fun x => VSpan.ok w x) Try.underlying40 (by kernel_rfl) (fun n cs y h => by obtain ⟨lo, hi, e, hw⟩ := tc_Span h; exact ⟨⟨lo, hi⟩, e, hw⟩) (fun x => rfl) (by decide) h
  exact ⟨A, c, xs, hcs, hs, hl, hm, hx⟩
set_option maxRecDepth 100000 in
theorem open_spans {H : Type} {enc : TypeId × Value → H} {w : World} {base : Nat} {spare : Nat → Bool} {held : Bool} {r : Reach} {b0 : Nat} {v : Value} {d : DataW H} {p : List MemPlace} (hv : Value.okWide Try.prog w r b0 40 v) (h : DataW.Trod enc Try.prog w base spare held 40 v d p) :
    ∃ (sA : Option Addr) (sC : Nat) (s : List VSpan), v = .slice sA s.length sC ∧ SlOk w 2 sA sC (s.flatMap VSpan.cells) ∧ s.length ≤ sC ∧ sC ≤ maxLen ∧ ∀ u_ ∈ s, VSpan.ok w u_ := by
  obtain ⟨a, l, c, rfl⟩ := okWide_slice Try.underlying40 hv
  obtain ⟨fuel, hf⟩ := h
  obtain ⟨sA, sC, s, e, hw⟩ := tc_SlSpan hf
  refine ⟨sA, sC, s, ?_, hw⟩
  simpa [Value.cells] using e
theorem trod_float {P : Program} {H : Type} {enc : TypeId × Value → H} {w : World} {base : Nat} {spare : Nat → Bool} {held : Bool} {t : TypeId} {k : FloatKind} {n : Nat} {cs : List Value} {x : DataW H × List MemPlace} (ht : P.underlying t = some (.float k)) (h : DataW.trod enc P w base spare held n t cs = some x) : ∃ b, cs = [.float k b] ∧ x = (.lit (.float k b), []) ∧ (Lit.float k b).wf = true := by
  cases n with
  | zero => simp [DataW.trod] at h
  | succ n =>
    unfold DataW.trod at h
    rw [ht] at h
    split at h <;> simp_all
theorem tc_float64 {H : Type} {enc : TypeId × Value → H} {w : World} {base : Nat} {spare : Nat → Bool} {held : Bool} {n : Nat} {cs : List Value} {y : DataW H × List MemPlace} (h : DataW.trod enc Try.prog w base spare held n 32 cs = some y) : ∃ (z : Nat), cs = [.float .f64 z] ∧ (Lit.float .f64 z).wf = true := by
  obtain ⟨z, e, _, hw⟩ := trod_float Try.underlying32 h
  exact ⟨z, e, hw⟩
set_option maxRecDepth 100000 in
theorem tc_Time {H : Type} {enc : TypeId × Value → H} {w : World} {base : Nat} {spare : Nat → Bool} {held : Bool} {n : Nat} {cs : List Value} {y : DataW H × List MemPlace} (h : DataW.trod enc Try.prog w base spare held n 47 cs = some y) : ∃ (early : Int) (late : Int) (rate : Nat), cs = [.int .i64 early, .int .i64 late, .float .f64 rate] ∧ (Lit.int .i64 early).wf = true ∧ (Lit.int .i64 late).wf = true ∧ (Lit.float .f64 rate).wf = true := by
  obtain ⟨ys, n', _, _, hl, hy, hf⟩ := DataW.trod_struct Try.underlying47 h
  rw [show Try.prog.cellsOf 47 = 3 from by kernel_rfl] at hl
  match cs, hl with
  | [c0, c1, c2], _ =>
    have g0 := hf 0 _ rfl
    have k0 : Try.prog.cellsOf 2 = 1 := by kernel_rfl
    have e0 : ys[0]? = some (ys[0]'(by rw [hy]; decide)) := List.getElem?_eq_getElem _
    replace g0 : DataW.trod enc Try.prog w base spare held n' 2 [c0] = some (ys[0]'(by rw [hy]; decide)) := by rw [← e0, ← g0]; show _ = DataW.trod _ _ _ _ _ _ _ 2 ((List.drop 0 [c0, c1, c2]).take (Try.prog.cellsOf 2)); rw [k0]; rfl
    obtain ⟨q0, r0, h0_0⟩ := tc_int64 g0
    simp only [List.cons.injEq, and_true] at r0
    have g1 := hf 1 _ rfl
    have k1 : Try.prog.cellsOf 2 = 1 := by kernel_rfl
    have e1 : ys[1]? = some (ys[1]'(by rw [hy]; decide)) := List.getElem?_eq_getElem _
    replace g1 : DataW.trod enc Try.prog w base spare held n' 2 [c1] = some (ys[1]'(by rw [hy]; decide)) := by rw [← e1, ← g1]; show _ = DataW.trod _ _ _ _ _ _ _ 2 ((List.drop 1 [c0, c1, c2]).take (Try.prog.cellsOf 2)); rw [k1]; rfl
    obtain ⟨q1, r1, h1_0⟩ := tc_int64 g1
    simp only [List.cons.injEq, and_true] at r1
    have g2 := hf 2 _ rfl
    have k2 : Try.prog.cellsOf 32 = 1 := by kernel_rfl
    have e2 : ys[2]? = some (ys[2]'(by rw [hy]; decide)) := List.getElem?_eq_getElem _
    replace g2 : DataW.trod enc Try.prog w base spare held n' 32 [c2] = some (ys[2]'(by rw [hy]; decide)) := by rw [← e2, ← g2]; show _ = DataW.trod _ _ _ _ _ _ _ 32 ((List.drop 2 [c0, c1, c2]).take (Try.prog.cellsOf 32)); rw [k2]; rfl
    obtain ⟨q2, r2, h2_0⟩ := tc_float64 g2
    simp only [List.cons.injEq, and_true] at r2
    exact ⟨q0, q1, q2, by simp [r0, r1, r2], h0_0, h1_0, h2_0⟩
set_option maxRecDepth 100000 in
theorem open_time {H : Type} {enc : TypeId × Value → H} {w : World} {base : Nat} {spare : Nat → Bool} {held : Bool} {r : Reach} {b0 : Nat} {v : Value} {d : DataW H} {p : List MemPlace} (hv : Value.okWide Try.prog w r b0 47 v) (h : DataW.Trod enc Try.prog w base spare held 47 v d p) :
    ∃ (early : Int) (late : Int) (rate : Nat), v = .agg #[.int .i64 early, .int .i64 late, .float .f64 rate] ∧ (Lit.int .i64 early).wf = true ∧ (Lit.int .i64 late).wf = true ∧ (Lit.float .f64 rate).wf = true := by
  obtain ⟨cs, rfl, _⟩ := okWide_struct Try.underlying47 hv
  obtain ⟨fuel, hf⟩ := h
  obtain ⟨early, late, rate, e, hw⟩ := tc_Time hf
  refine ⟨early, late, rate, ?_, hw⟩
  obtain ⟨l⟩ := cs
  simp only [Value.cells] at e
  rw [show l = _ from e]
end Go.Proofs.Ytnljmjibjjjelaa
