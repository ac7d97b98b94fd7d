/- Arguments laid open (printed by a program of ours). -/
import Derived.Test.YtkjlhhdenebbiaaOpenA
set_option linter.unusedSimpArgs false
set_option linter.unusedVariables false
namespace Go.Proofs.Ytkjlhhdenebbiaa
open Go.ChangeShapes Go.WideShapes Go.ChangeAt Go.RowKit Go.Joins
/-- a api.Span -/
structure VSpan where
  lo : Int
  hi : Int
def VSpan.cells (x : VSpan) : List Value := [.int .i64 x.lo, .int .i64 x.hi]
def VSpan.ok (w : World) (x : VSpan) : Prop := (Lit.int .i64 x.lo).wf = true ∧ (Lit.int .i64 x.hi).wf = true
/-- a moietylaw10.Call -/
structure VCall10 where
  kind : Int
  t : Int
  now_lo : Int
  now_hi : Int
  aboveA : Option Addr
  aboveC : Nat
  above : List Int
def VCall10.cells (x : VCall10) : List Value := [.int .i64 x.kind, .int .i64 x.t, .int .i64 x.now_lo, .int .i64 x.now_hi, .slice x.aboveA x.above.length x.aboveC]
def VCall10.ok (w : World) (x : VCall10) : Prop := (Lit.int .i64 x.kind).wf = true ∧ (Lit.int .i64 x.t).wf = true ∧ (Lit.int .i64 x.now_lo).wf = true ∧ (Lit.int .i64 x.now_hi).wf = true ∧ SlOk w 1 x.aboveA x.aboveC (x.above.map (Value.int .i64)) ∧ x.above.length ≤ x.aboveC ∧ x.aboveC ≤ maxLen ∧ ∀ u_ ∈ x.above, (Lit.int .i64 u_).wf = true
theorem tc_int64 {H : Type} {enc : TypeId × Value → H} {w : World} {base : Nat} {spare : Nat → Bool} {held : Bool} {n : Nat} {cs : List Value} {y : DataW H × List MemPlace} (h : DataW.trod enc Try.prog w base spare held n 2 cs = some y) : ∃ (z : Int), cs = [.int .i64 z] ∧ (Lit.int .i64 z).wf = true := by
  obtain ⟨z, e, _, hw⟩ := DataW.trod_int Try.underlying2 h
  exact ⟨z, e, hw⟩
set_option maxRecDepth 100000 in
theorem tc_Span {H : Type} {enc : TypeId × Value → H} {w : World} {base : Nat} {spare : Nat → Bool} {held : Bool} {n : Nat} {cs : List Value} {y : DataW H × List MemPlace} (h : DataW.trod enc Try.prog w base spare held n 28 cs = some y) : ∃ (lo : Int) (hi : Int), cs = [.int .i64 lo, .int .i64 hi] ∧ (Lit.int .i64 lo).wf = true ∧ (Lit.int .i64 hi).wf = true := by
  obtain ⟨ys, n', _, _, hl, hy, hf⟩ := DataW.trod_struct Try.underlying28 h
  rw [show Try.prog.cellsOf 28 = 2 from by kernel_rfl] at hl
  match cs, hl with
  | [c0, c1], _ =>
    have g0 := hf 0 _ rfl
    have k0 : Try.prog.cellsOf 2 = 1 := by kernel_rfl
    have e0 : ys[0]? = some (ys[0]'(by rw [hy]; decide)) := List.getElem?_eq_getElem _
    replace g0 : DataW.trod enc Try.prog w base spare held n' 2 [c0] = some (ys[0]'(by rw [hy]; decide)) := by rw [← e0, ← g0]; show _ = DataW.trod _ _ _ _ _ _ _ 2 ((List.drop 0 [c0, c1]).take (Try.prog.cellsOf 2)); rw [k0]; rfl
    obtain ⟨q0, r0, h0_0⟩ := tc_int64 g0
    simp only [List.cons.injEq, and_true] at r0
    have g1 := hf 1 _ rfl
    have k1 : Try.prog.cellsOf 2 = 1 := by kernel_rfl
    have e1 : ys[1]? = some (ys[1]'(by rw [hy]; decide)) := List.getElem?_eq_getElem _
    replace g1 : DataW.trod enc Try.prog w base spare held n' 2 [c1] = some (ys[1]'(by rw [hy]; decide)) := by rw [← e1, ← g1]; show _ = DataW.trod _ _ _ _ _ _ _ 2 ((List.drop 1 [c0, c1]).take (Try.prog.cellsOf 2)); rw [k1]; rfl
    obtain ⟨q1, r1, h1_0⟩ := tc_int64 g1
    simp only [List.cons.injEq, and_true] at r1
    exact ⟨q0, q1, by simp [r0, r1], h0_0, h1_0⟩
set_option maxRecDepth 100000 in
theorem open_span {H : Type} {enc : TypeId × Value → H} {w : World} {base : Nat} {spare : Nat → Bool} {held : Bool} {r : Reach} {b0 : Nat} {v : Value} {d : DataW H} {p : List MemPlace} (hv : Value.okWide Try.prog w r b0 28 v) (h : DataW.Trod enc Try.prog w base spare held 28 v d p) :
    ∃ (lo : Int) (hi : Int), v = .agg #[.int .i64 lo, .int .i64 hi] ∧ (Lit.int .i64 lo).wf = true ∧ (Lit.int .i64 hi).wf = true := by
  obtain ⟨cs, rfl, _⟩ := okWide_struct Try.underlying28 hv
  obtain ⟨fuel, hf⟩ := h
  obtain ⟨lo, hi, e, hw⟩ := tc_Span hf
  refine ⟨lo, hi, ?_, hw⟩
  obtain ⟨l⟩ := cs
  simp only [Value.cells] at e
  rw [show l = _ from e]
set_option maxRecDepth 100000 in
theorem tc_Slint64 {H : Type} {enc : TypeId × Value → H} {w : World} {base : Nat} {spare : Nat → Bool} {held : Bool} {n : Nat} {cs : List Value} {y : DataW H × List MemPlace} (h : DataW.trod enc Try.prog w base spare held n 26 cs = some y) : ∃ (zA : Option Addr) (zC : Nat) (z : List Int), cs = [.slice zA z.length zC] ∧ SlOk w 1 zA zC (z.map (Value.int .i64)) ∧ z.length ≤ zC ∧ zC ≤ maxLen ∧ ∀ u_ ∈ z, (Lit.int .i64 u_).wf = true := by
  obtain ⟨A, c, xs, hcs, hs, hl, hm, hx⟩ := slice_open (E := Int) (size := 1) (ce := fun x => [.int .i64 x]) (ok := fun x => (Lit.int .i64 x).wf = true) Try.underlying26 (by kernel_rfl) (fun n cs y h => by obtain ⟨z, e, hw⟩ := tc_int64 h; exact ⟨z, e, hw⟩) (fun x => rfl) (by decide) h
  exact ⟨A, c, xs, hcs, by simpa only [flatMap_single] using hs, hl, hm, hx⟩
set_option maxRecDepth 100000 in
theorem open_i64s {H : Type} {enc : TypeId × Value → H} {w : World} {base : Nat} {spare : Nat → Bool} {held : Bool} {r : Reach} {b0 : Nat} {v : Value} {d : DataW H} {p : List MemPlace} (hv : Value.okWide Try.prog w r b0 26 v) (h : DataW.Trod enc Try.prog w base spare held 26 v d p) :
    ∃ (sA : Option Addr) (sC : Nat) (s : List Int), v = .slice sA s.length sC ∧ SlOk w 1 sA sC (s.map (Value.int .i64)) ∧ s.length ≤ sC ∧ sC ≤ maxLen ∧ ∀ u_ ∈ s, (Lit.int .i64 u_).wf = true := by
  obtain ⟨a, l, c, rfl⟩ := okWide_slice Try.underlying26 hv
  obtain ⟨fuel, hf⟩ := h
  obtain ⟨sA, sC, s, e, hw⟩ := tc_Slint64 hf
  refine ⟨sA, sC, s, ?_, hw⟩
  simpa [Value.cells] using e
theorem tc_int {H : Type} {enc : TypeId × Value → H} {w : World} {base : Nat} {spare : Nat → Bool} {held : Bool} {n : Nat} {cs : List Value} {y : DataW H × List MemPlace} (h : DataW.trod enc Try.prog w base spare held n 3 cs = some y) : ∃ (z : Int), cs = [.int .i64 z] ∧ (Lit.int .i64 z).wf = true := by
  obtain ⟨z, e, _, hw⟩ := DataW.trod_int Try.underlying3 h
  exact ⟨z, e, hw⟩
set_option maxRecDepth 100000 in
theorem tc_Call10 {H : Type} {enc : TypeId × Value → H} {w : World} {base : Nat} {spare : Nat → Bool} {held : Bool} {n : Nat} {cs : List Value} {y : DataW H × List MemPlace} (h : DataW.trod enc Try.prog w base spare held n 30 cs = some y) : ∃ (kind : Int) (t : Int) (now_lo : Int) (now_hi : Int) (aboveA : Option Addr) (aboveC : Nat) (above : List Int), cs = [.int .i64 kind, .int .i64 t, .int .i64 now_lo, .int .i64 now_hi, .slice aboveA above.length aboveC] ∧ (Lit.int .i64 kind).wf = true ∧ (Lit.int .i64 t).wf = true ∧ (Lit.int .i64 now_lo).wf = true ∧ (Lit.int .i64 now_hi).wf = true ∧ SlOk w 1 aboveA aboveC (above.map (Value.int .i64)) ∧ above.length ≤ aboveC ∧ aboveC ≤ maxLen ∧ ∀ u_ ∈ above, (Lit.int .i64 u_).wf = true := by
  obtain ⟨ys, n', _, _, hl, hy, hf⟩ := DataW.trod_struct Try.underlying30 h
  rw [show Try.prog.cellsOf 30 = 5 from by kernel_rfl] at hl
  match cs, hl with
  | [c0, c1, c2, c3, c4], _ =>
    have g0 := hf 0 _ rfl
    have k0 : Try.prog.cellsOf 3 = 1 := by kernel_rfl
    have e0 : ys[0]? = some (ys[0]'(by rw [hy]; decide)) := List.getElem?_eq_getElem _
    replace g0 : DataW.trod enc Try.prog w base spare held n' 3 [c0] = some (ys[0]'(by rw [hy]; decide)) := by rw [← e0, ← g0]; show _ = DataW.trod _ _ _ _ _ _ _ 3 ((List.drop 0 [c0, c1, c2, c3, c4]).take (Try.prog.cellsOf 3)); rw [k0]; rfl
    obtain ⟨q0, r0, h0_0⟩ := tc_int g0
    simp only [List.cons.injEq, and_true] at r0
    have g1 := hf 1 _ rfl
    have k1 : Try.prog.cellsOf 2 = 1 := by kernel_rfl
    have e1 : ys[1]? = some (ys[1]'(by rw [hy]; decide)) := List.getElem?_eq_getElem _
    replace g1 : DataW.trod enc Try.prog w base spare held n' 2 [c1] = some (ys[1]'(by rw [hy]; decide)) := by rw [← e1, ← g1]; show _ = DataW.trod _ _ _ _ _ _ _ 2 ((List.drop 1 [c0, c1, c2, c3, c4]).take (Try.prog.cellsOf 2)); rw [k1]; rfl
    obtain ⟨q1, r1, h1_0⟩ := tc_int64 g1
    simp only [List.cons.injEq, and_true] at r1
    have g2 := hf 2 _ rfl
    have k2 : Try.prog.cellsOf 28 = 2 := by kernel_rfl
    have e2 : ys[2]? = some (ys[2]'(by rw [hy]; decide)) := List.getElem?_eq_getElem _
    replace g2 : DataW.trod enc Try.prog w base spare held n' 28 [c2, c3] = some (ys[2]'(by rw [hy]; decide)) := by rw [← e2, ← g2]; show _ = DataW.trod _ _ _ _ _ _ _ 28 ((List.drop 2 [c0, c1, c2, c3, c4]).take (Try.prog.cellsOf 28)); rw [k2]; rfl
    obtain ⟨q2_lo, q2_hi, r2, h2_0, h2_1⟩ := tc_Span g2
    simp only [List.cons.injEq, and_true] at r2
    have g3 := hf 3 _ rfl
    have k3 : Try.prog.cellsOf 26 = 1 := by kernel_rfl
    have e3 : ys[3]? = some (ys[3]'(by rw [hy]; decide)) := List.getElem?_eq_getElem _
    replace g3 : DataW.trod enc Try.prog w base spare held n' 26 [c4] = some (ys[3]'(by rw [hy]; decide)) := by rw [← e3, ← g3]; show _ = DataW.trod _ _ _ _ _ _ _ 26 ((List.drop 4 [c0, c1, c2, c3, c4]).take (Try.prog.cellsOf 26)); rw [k3]; rfl
    obtain ⟨q3A, q3C, q3, r3, h3_0, h3_1, h3_2, h3_3⟩ := tc_Slint64 g3
    simp only [List.cons.injEq, and_true] at r3
    exact ⟨q0, q1, q2_lo, q2_hi, q3A, q3C, q3, by simp [r0, r1, r2, r3], h0_0, h1_0, h2_0, h2_1, h3_0, h3_1, h3_2, h3_3⟩
set_option maxRecDepth 100000 in
theorem tc_SlCall10 {H : Type} {enc : TypeId × Value → H} {w : World} {base : Nat} {spare : Nat → Bool} {held : Bool} {n : Nat} {cs : List Value} {y : DataW H × List MemPlace} (h : DataW.trod enc Try.prog w base spare held n 22 cs = some y) : ∃ (zA : Option Addr) (zC : Nat) (z : List VCall10), cs = [.slice zA z.length zC] ∧ SlOk w 5 zA zC (z.flatMap VCall10.cells) ∧ z.length ≤ zC ∧ zC ≤ maxLen ∧ ∀ u_ ∈ z, VCall10.ok w u_ := by
  obtain ⟨A, c, xs, hcs, hs, hl, hm, hx⟩ := slice_open (E := VCall10) (size := 5) (ce := fun x => VCall10.cells x) (ok := fun x => VCall10.ok w x) Try.underlying22 (by kernel_rfl) (fun n cs y h => by obtain ⟨kind, t, now_lo, now_hi, aboveA, aboveC, above, e, hw⟩ := tc_Call10 h; exact ⟨⟨kind, t, now_lo, now_hi, aboveA, aboveC, above⟩, e, hw⟩) (fun x => rfl) (by decide) h
  exact ⟨A, c, xs, hcs, hs, hl, hm, hx⟩
set_option maxRecDepth 100000 in
theorem open_calls10 {H : Type} {enc : TypeId × Value → H} {w : World} {base : Nat} {spare : Nat → Bool} {held : Bool} {r : Reach} {b0 : Nat} {v : Value} {d : DataW H} {p : List MemPlace} (hv : Value.okWide Try.prog w r b0 22 v) (h : DataW.Trod enc Try.prog w base spare held 22 v d p) :
    ∃ (sA : Option Addr) (sC : Nat) (s : List VCall10), v = .slice sA s.length sC ∧ SlOk w 5 sA sC (s.flatMap VCall10.cells) ∧ s.length ≤ sC ∧ sC ≤ maxLen ∧ ∀ u_ ∈ s, VCall10.ok w u_ := by
  obtain ⟨a, l, c, rfl⟩ := okWide_slice Try.underlying22 hv
  obtain ⟨fuel, hf⟩ := h
  obtain ⟨sA, sC, s, e, hw⟩ := tc_SlCall10 hf
  refine ⟨sA, sC, s, ?_, hw⟩
  simpa [Value.cells] using e
end Go.Proofs.Ytkjlhhdenebbiaa
