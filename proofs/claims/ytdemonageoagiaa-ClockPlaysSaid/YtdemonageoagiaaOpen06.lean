/- Arguments laid open (printed by a program of ours). -/
import Derived.Test.YtdemonageoagiaaOpenA
import Derived.Test.YtdemonageoagiaaStampI
set_option linter.unusedSimpArgs false
set_option linter.unusedVariables false
namespace Go.Proofs.Ytdemonageoagiaa
open Go.ChangeShapes Go.WideShapes Go.ChangeAt Go.RowKit Go.Joins
/-- a moietylaw06.Call -/
structure VCall06 where
  kind : Int
  hh : Int
  tt : Int
  wd : Int
def VCall06.cells (x : VCall06) : List Value := [.int .i64 x.kind, .int .i64 x.hh, .int .i64 x.tt, .int .i64 x.wd]
def VCall06.ok (w : World) (x : VCall06) : Prop := (Lit.int .i64 x.kind).wf = true ∧ (Lit.int .i64 x.hh).wf = true ∧ (Lit.int .i64 x.tt).wf = true ∧ (Lit.int .i64 x.wd).wf = true
/-- a moietylaw06.Step -/
structure VStep where
  dh : Int
  skew : Int
  set : Bool
  wd : Int
  off : Int
def VStep.cells (x : VStep) : List Value := [.int .u32 x.dh, .int .i64 x.skew, .bool x.set, .int .u16 x.wd, .int .i64 x.off]
def VStep.ok (w : World) (x : VStep) : Prop := (Lit.int .u32 x.dh).wf = true ∧ (Lit.int .i64 x.skew).wf = true ∧ (Lit.int .u16 x.wd).wf = true ∧ (Lit.int .i64 x.off).wf = true
/-- a moietylaw06.Pair -/
structure VPair where
  dd : Int
  a_dh : Int
  a_skew : Int
  a_set : Bool
  a_wd : Int
  a_off : Int
  b_dh : Int
  b_skew : Int
  b_set : Bool
  b_wd : Int
  b_off : Int
def VPair.cells (x : VPair) : List Value := [.int .u32 x.dd, .int .u32 x.a_dh, .int .i64 x.a_skew, .bool x.a_set, .int .u16 x.a_wd, .int .i64 x.a_off, .int .u32 x.b_dh, .int .i64 x.b_skew, .bool x.b_set, .int .u16 x.b_wd, .int .i64 x.b_off]
def VPair.ok (w : World) (x : VPair) : Prop := (Lit.int .u32 x.dd).wf = true ∧ (Lit.int .u32 x.a_dh).wf = true ∧ (Lit.int .i64 x.a_skew).wf = true ∧ (Lit.int .u16 x.a_wd).wf = true ∧ (Lit.int .i64 x.a_off).wf = true ∧ (Lit.int .u32 x.b_dh).wf = true ∧ (Lit.int .i64 x.b_skew).wf = true ∧ (Lit.int .u16 x.b_wd).wf = true ∧ (Lit.int .i64 x.b_off).wf = true
/-- a moietylaw06.Basis -/
structure VBasis where
  wd : Int
  dd : Int
def VBasis.cells (x : VBasis) : List Value := [.int .i64 x.wd, .int .u32 x.dd]
def VBasis.ok (w : World) (x : VBasis) : Prop := (Lit.int .i64 x.wd).wf = true ∧ (Lit.int .u32 x.dd).wf = true
theorem tc_int {H : Type} {enc : TypeId × Value → H} {w : World} {base : Nat} {spare : Nat → Bool} {held : Bool} {n : Nat} {cs : List Value} {y : DataW H × List MemPlace} (h : DataW.trod enc Try.prog w base spare held n 3 cs = some y) : ∃ (z : Int), cs = [.int .i64 z] ∧ (Lit.int .i64 z).wf = true := by
  obtain ⟨z, e, _, hw⟩ := DataW.trod_int Try.underlying3 h
  exact ⟨z, e, hw⟩
theorem tc_int64 {H : Type} {enc : TypeId × Value → H} {w : World} {base : Nat} {spare : Nat → Bool} {held : Bool} {n : Nat} {cs : List Value} {y : DataW H × List MemPlace} (h : DataW.trod enc Try.prog w base spare held n 2 cs = some y) : ∃ (z : Int), cs = [.int .i64 z] ∧ (Lit.int .i64 z).wf = true := by
  obtain ⟨z, e, _, hw⟩ := DataW.trod_int Try.underlying2 h
  exact ⟨z, e, hw⟩
set_option maxRecDepth 100000 in
theorem tc_Call06 {H : Type} {enc : TypeId × Value → H} {w : World} {base : Nat} {spare : Nat → Bool} {held : Bool} {n : Nat} {cs : List Value} {y : DataW H × List MemPlace} (h : DataW.trod enc Try.prog w base spare held n 34 cs = some y) : ∃ (kind : Int) (hh : Int) (tt : Int) (wd : Int), cs = [.int .i64 kind, .int .i64 hh, .int .i64 tt, .int .i64 wd] ∧ (Lit.int .i64 kind).wf = true ∧ (Lit.int .i64 hh).wf = true ∧ (Lit.int .i64 tt).wf = true ∧ (Lit.int .i64 wd).wf = true := by
  obtain ⟨ys, n', _, _, hl, hy, hf⟩ := DataW.trod_struct Try.underlying34 h
  rw [show Try.prog.cellsOf 34 = 4 from by kernel_rfl] at hl
  match cs, hl with
  | [c0, c1, c2, c3], _ =>
    have g0 := hf 0 _ rfl
    have k0 : Try.prog.cellsOf 3 = 1 := by kernel_rfl
    have e0 : ys[0]? = some (ys[0]'(by rw [hy]; decide)) := List.getElem?_eq_getElem _
    replace g0 : DataW.trod enc Try.prog w base spare held n' 3 [c0] = some (ys[0]'(by rw [hy]; decide)) := by rw [← e0, ← g0]; show _ = DataW.trod _ _ _ _ _ _ _ 3 ((List.drop 0 [c0, c1, c2, c3]).take (Try.prog.cellsOf 3)); rw [k0]; rfl
    obtain ⟨q0, r0, h0_0⟩ := tc_int g0
    simp only [List.cons.injEq, and_true] at r0
    have g1 := hf 1 _ rfl
    have k1 : Try.prog.cellsOf 2 = 1 := by kernel_rfl
    have e1 : ys[1]? = some (ys[1]'(by rw [hy]; decide)) := List.getElem?_eq_getElem _
    replace g1 : DataW.trod enc Try.prog w base spare held n' 2 [c1] = some (ys[1]'(by rw [hy]; decide)) := by rw [← e1, ← g1]; show _ = DataW.trod _ _ _ _ _ _ _ 2 ((List.drop 1 [c0, c1, c2, c3]).take (Try.prog.cellsOf 2)); rw [k1]; rfl
    obtain ⟨q1, r1, h1_0⟩ := tc_int64 g1
    simp only [List.cons.injEq, and_true] at r1
    have g2 := hf 2 _ rfl
    have k2 : Try.prog.cellsOf 2 = 1 := by kernel_rfl
    have e2 : ys[2]? = some (ys[2]'(by rw [hy]; decide)) := List.getElem?_eq_getElem _
    replace g2 : DataW.trod enc Try.prog w base spare held n' 2 [c2] = some (ys[2]'(by rw [hy]; decide)) := by rw [← e2, ← g2]; show _ = DataW.trod _ _ _ _ _ _ _ 2 ((List.drop 2 [c0, c1, c2, c3]).take (Try.prog.cellsOf 2)); rw [k2]; rfl
    obtain ⟨q2, r2, h2_0⟩ := tc_int64 g2
    simp only [List.cons.injEq, and_true] at r2
    have g3 := hf 3 _ rfl
    have k3 : Try.prog.cellsOf 2 = 1 := by kernel_rfl
    have e3 : ys[3]? = some (ys[3]'(by rw [hy]; decide)) := List.getElem?_eq_getElem _
    replace g3 : DataW.trod enc Try.prog w base spare held n' 2 [c3] = some (ys[3]'(by rw [hy]; decide)) := by rw [← e3, ← g3]; show _ = DataW.trod _ _ _ _ _ _ _ 2 ((List.drop 3 [c0, c1, c2, c3]).take (Try.prog.cellsOf 2)); rw [k3]; rfl
    obtain ⟨q3, r3, h3_0⟩ := tc_int64 g3
    simp only [List.cons.injEq, and_true] at r3
    exact ⟨q0, q1, q2, q3, by simp [r0, r1, r2, r3], h0_0, h1_0, h2_0, h3_0⟩
set_option maxRecDepth 100000 in
theorem tc_SlCall06 {H : Type} {enc : TypeId × Value → H} {w : World} {base : Nat} {spare : Nat → Bool} {held : Bool} {n : Nat} {cs : List Value} {y : DataW H × List MemPlace} (h : DataW.trod enc Try.prog w base spare held n 23 cs = some y) : ∃ (zA : Option Addr) (zC : Nat) (z : List VCall06), cs = [.slice zA z.length zC] ∧ SlOk w 4 zA zC (z.flatMap VCall06.cells) ∧ z.length ≤ zC ∧ zC ≤ maxLen ∧ ∀ u_ ∈ z, VCall06.ok w u_ := by
  obtain ⟨A, c, xs, hcs, hs, hl, hm, hx⟩ := slice_open (E := VCall06) (size := 4) (ce := fun x => VCall06.cells x) (ok := fun x => VCall06.ok w x) Try.underlying23 (by kernel_rfl) (fun n cs y h => by obtain ⟨kind, hh, tt, wd, e, hw⟩ := tc_Call06 h; exact ⟨⟨kind, hh, tt, wd⟩, e, hw⟩) (fun x => rfl) (by decide) h
  exact ⟨A, c, xs, hcs, hs, hl, hm, hx⟩
set_option maxRecDepth 100000 in
theorem open_calls06 {H : Type} {enc : TypeId × Value → H} {w : World} {base : Nat} {spare : Nat → Bool} {held : Bool} {r : Reach} {b0 : Nat} {v : Value} {d : DataW H} {p : List MemPlace} (hv : Value.okWide Try.prog w r b0 23 v) (h : DataW.Trod enc Try.prog w base spare held 23 v d p) :
    ∃ (sA : Option Addr) (sC : Nat) (s : List VCall06), v = .slice sA s.length sC ∧ SlOk w 4 sA sC (s.flatMap VCall06.cells) ∧ s.length ≤ sC ∧ sC ≤ maxLen ∧ ∀ u_ ∈ s, VCall06.ok w u_ := by
  obtain ⟨a, l, c, rfl⟩ := okWide_slice Try.underlying23 hv
  obtain ⟨fuel, hf⟩ := h
  obtain ⟨sA, sC, s, e, hw⟩ := tc_SlCall06 hf
  refine ⟨sA, sC, s, ?_, hw⟩
  simpa [Value.cells] using e
theorem tc_uint32 {H : Type} {enc : TypeId × Value → H} {w : World} {base : Nat} {spare : Nat → Bool} {held : Bool} {n : Nat} {cs : List Value} {y : DataW H × List MemPlace} (h : DataW.trod enc Try.prog w base spare held n 54 cs = some y) : ∃ (z : Int), cs = [.int .u32 z] ∧ (Lit.int .u32 z).wf = true := by
  obtain ⟨z, e, _, hw⟩ := DataW.trod_int Try.underlying54 h
  exact ⟨z, e, hw⟩
theorem tc_bool {H : Type} {enc : TypeId × Value → H} {w : World} {base : Nat} {spare : Nat → Bool} {held : Bool} {n : Nat} {cs : List Value} {y : DataW H × List MemPlace} (h : DataW.trod enc Try.prog w base spare held n 4 cs = some y) : ∃ (z : Bool), cs = [.bool z] := by
  obtain ⟨z, e, _⟩ := DataW.trod_bool Try.underlying4 h
  exact ⟨z, e⟩
theorem tc_uint16 {H : Type} {enc : TypeId × Value → H} {w : World} {base : Nat} {spare : Nat → Bool} {held : Bool} {n : Nat} {cs : List Value} {y : DataW H × List MemPlace} (h : DataW.trod enc Try.prog w base spare held n 52 cs = some y) : ∃ (z : Int), cs = [.int .u16 z] ∧ (Lit.int .u16 z).wf = true := by
  obtain ⟨z, e, _, hw⟩ := DataW.trod_int Try.underlying52 h
  exact ⟨z, e, hw⟩
set_option maxRecDepth 100000 in
theorem tc_Step {H : Type} {enc : TypeId × Value → H} {w : World} {base : Nat} {spare : Nat → Bool} {held : Bool} {n : Nat} {cs : List Value} {y : DataW H × List MemPlace} (h : DataW.trod enc Try.prog w base spare held n 56 cs = some y) : ∃ (dh : Int) (skew : Int) (set : Bool) (wd : Int) (off : Int), cs = [.int .u32 dh, .int .i64 skew, .bool set, .int .u16 wd, .int .i64 off] ∧ (Lit.int .u32 dh).wf = true ∧ (Lit.int .i64 skew).wf = true ∧ (Lit.int .u16 wd).wf = true ∧ (Lit.int .i64 off).wf = true := by
  obtain ⟨ys, n', _, _, hl, hy, hf⟩ := DataW.trod_struct Try.underlying56 h
  rw [show Try.prog.cellsOf 56 = 5 from by kernel_rfl] at hl
  match cs, hl with
  | [c0, c1, c2, c3, c4], _ =>
    have g0 := hf 0 _ rfl
    have k0 : Try.prog.cellsOf 54 = 1 := by kernel_rfl
    have e0 : ys[0]? = some (ys[0]'(by rw [hy]; decide)) := List.getElem?_eq_getElem _
    replace g0 : DataW.trod enc Try.prog w base spare held n' 54 [c0] = some (ys[0]'(by rw [hy]; decide)) := by rw [← e0, ← g0]; show _ = DataW.trod _ _ _ _ _ _ _ 54 ((List.drop 0 [c0, c1, c2, c3, c4]).take (Try.prog.cellsOf 54)); rw [k0]; rfl
    obtain ⟨q0, r0, h0_0⟩ := tc_uint32 g0
    simp only [List.cons.injEq, and_true] at r0
    have g1 := hf 1 _ rfl
    have k1 : Try.prog.cellsOf 2 = 1 := by kernel_rfl
    have e1 : ys[1]? = some (ys[1]'(by rw [hy]; decide)) := List.getElem?_eq_getElem _
    replace g1 : DataW.trod enc Try.prog w base spare held n' 2 [c1] = some (ys[1]'(by rw [hy]; decide)) := by rw [← e1, ← g1]; show _ = DataW.trod _ _ _ _ _ _ _ 2 ((List.drop 1 [c0, c1, c2, c3, c4]).take (Try.prog.cellsOf 2)); rw [k1]; rfl
    obtain ⟨q1, r1, h1_0⟩ := tc_int64 g1
    simp only [List.cons.injEq, and_true] at r1
    have g2 := hf 2 _ rfl
    have k2 : Try.prog.cellsOf 4 = 1 := by kernel_rfl
    have e2 : ys[2]? = some (ys[2]'(by rw [hy]; decide)) := List.getElem?_eq_getElem _
    replace g2 : DataW.trod enc Try.prog w base spare held n' 4 [c2] = some (ys[2]'(by rw [hy]; decide)) := by rw [← e2, ← g2]; show _ = DataW.trod _ _ _ _ _ _ _ 4 ((List.drop 2 [c0, c1, c2, c3, c4]).take (Try.prog.cellsOf 4)); rw [k2]; rfl
    obtain ⟨q2, r2⟩ := tc_bool g2
    simp only [List.cons.injEq, and_true] at r2
    have g3 := hf 3 _ rfl
    have k3 : Try.prog.cellsOf 52 = 1 := by kernel_rfl
    have e3 : ys[3]? = some (ys[3]'(by rw [hy]; decide)) := List.getElem?_eq_getElem _
    replace g3 : DataW.trod enc Try.prog w base spare held n' 52 [c3] = some (ys[3]'(by rw [hy]; decide)) := by rw [← e3, ← g3]; show _ = DataW.trod _ _ _ _ _ _ _ 52 ((List.drop 3 [c0, c1, c2, c3, c4]).take (Try.prog.cellsOf 52)); rw [k3]; rfl
    obtain ⟨q3, r3, h3_0⟩ := tc_uint16 g3
    simp only [List.cons.injEq, and_true] at r3
    have g4 := hf 4 _ rfl
    have k4 : Try.prog.cellsOf 2 = 1 := by kernel_rfl
    have e4 : ys[4]? = some (ys[4]'(by rw [hy]; decide)) := List.getElem?_eq_getElem _
    replace g4 : DataW.trod enc Try.prog w base spare held n' 2 [c4] = some (ys[4]'(by rw [hy]; decide)) := by rw [← e4, ← g4]; show _ = DataW.trod _ _ _ _ _ _ _ 2 ((List.drop 4 [c0, c1, c2, c3, c4]).take (Try.prog.cellsOf 2)); rw [k4]; rfl
    obtain ⟨q4, r4, h4_0⟩ := tc_int64 g4
    simp only [List.cons.injEq, and_true] at r4
    exact ⟨q0, q1, q2, q3, q4, by simp [r0, r1, r2, r3, r4], h0_0, h1_0, h3_0, h4_0⟩
set_option maxRecDepth 100000 in
theorem tc_SlStep {H : Type} {enc : TypeId × Value → H} {w : World} {base : Nat} {spare : Nat → Bool} {held : Bool} {n : Nat} {cs : List Value} {y : DataW H × List MemPlace} (h : DataW.trod enc Try.prog w base spare held n 47 cs = some y) : ∃ (zA : Option Addr) (zC : Nat) (z : List VStep), cs = [.slice zA z.length zC] ∧ SlOk w 5 zA zC (z.flatMap VStep.cells) ∧ z.length ≤ zC ∧ zC ≤ maxLen ∧ ∀ u_ ∈ z, VStep.ok w u_ := by
  obtain ⟨A, c, xs, hcs, hs, hl, hm, hx⟩ := slice_open (E := VStep) (size := 5) (ce := fun x => VStep.cells x) (ok := fun x => VStep.ok w x) Try.underlying47 (by kernel_rfl) (fun n cs y h => by obtain ⟨dh, skew, set, wd, off, e, hw⟩ := tc_Step h; exact ⟨⟨dh, skew, set, wd, off⟩, e, hw⟩) (fun x => rfl) (by decide) h
  exact ⟨A, c, xs, hcs, hs, hl, hm, hx⟩
set_option maxRecDepth 100000 in
theorem open_steps {H : Type} {enc : TypeId × Value → H} {w : World} {base : Nat} {spare : Nat → Bool} {held : Bool} {r : Reach} {b0 : Nat} {v : Value} {d : DataW H} {p : List MemPlace} (hv : Value.okWide Try.prog w r b0 47 v) (h : DataW.Trod enc Try.prog w base spare held 47 v d p) :
    ∃ (sA : Option Addr) (sC : Nat) (s : List VStep), v = .slice sA s.length sC ∧ SlOk w 5 sA sC (s.flatMap VStep.cells) ∧ s.length ≤ sC ∧ sC ≤ maxLen ∧ ∀ u_ ∈ s, VStep.ok w u_ := by
  obtain ⟨a, l, c, rfl⟩ := okWide_slice Try.underlying47 hv
  obtain ⟨fuel, hf⟩ := h
  obtain ⟨sA, sC, s, e, hw⟩ := tc_SlStep hf
  refine ⟨sA, sC, s, ?_, hw⟩
  simpa [Value.cells] using e
set_option maxRecDepth 100000 in
theorem tc_Pair {H : Type} {enc : TypeId × Value → H} {w : World} {base : Nat} {spare : Nat → Bool} {held : Bool} {n : Nat} {cs : List Value} {y : DataW H × List MemPlace} (h : DataW.trod enc Try.prog w base spare held n 61 cs = some y) : ∃ (dd : Int) (a_dh : Int) (a_skew : Int) (a_set : Bool) (a_wd : Int) (a_off : Int) (b_dh : Int) (b_skew : Int) (b_set : Bool) (b_wd : Int) (b_off : Int), cs = [.int .u32 dd, .int .u32 a_dh, .int .i64 a_skew, .bool a_set, .int .u16 a_wd, .int .i64 a_off, .int .u32 b_dh, .int .i64 b_skew, .bool b_set, .int .u16 b_wd, .int .i64 b_off] ∧ (Lit.int .u32 dd).wf = true ∧ (Lit.int .u32 a_dh).wf = true ∧ (Lit.int .i64 a_skew).wf = true ∧ (Lit.int .u16 a_wd).wf = true ∧ (Lit.int .i64 a_off).wf = true ∧ (Lit.int .u32 b_dh).wf = true ∧ (Lit.int .i64 b_skew).wf = true ∧ (Lit.int .u16 b_wd).wf = true ∧ (Lit.int .i64 b_off).wf = true := by
  obtain ⟨ys, n', _, _, hl, hy, hf⟩ := DataW.trod_struct Try.underlying61 h
  rw [show Try.prog.cellsOf 61 = 11 from by kernel_rfl] at hl
  match cs, hl with
  | [c0, c1, c2, c3, c4, c5, c6, c7, c8, c9, c10], _ =>
    have g0 := hf 0 _ rfl
    have k0 : Try.prog.cellsOf 54 = 1 := by kernel_rfl
    have e0 : ys[0]? = some (ys[0]'(by rw [hy]; decide)) := List.getElem?_eq_getElem _
    replace g0 : DataW.trod enc Try.prog w base spare held n' 54 [c0] = some (ys[0]'(by rw [hy]; decide)) := by rw [← e0, ← g0]; show _ = DataW.trod _ _ _ _ _ _ _ 54 ((List.drop 0 [c0, c1, c2, c3, c4, c5, c6, c7, c8, c9, c10]).take (Try.prog.cellsOf 54)); rw [k0]; rfl
    obtain ⟨q0, r0, h0_0⟩ := tc_uint32 g0
    simp only [List.cons.injEq, and_true] at r0
    have g1 := hf 1 _ rfl
    have k1 : Try.prog.cellsOf 56 = 5 := by kernel_rfl
    have e1 : ys[1]? = some (ys[1]'(by rw [hy]; decide)) := List.getElem?_eq_getElem _
    replace g1 : DataW.trod enc Try.prog w base spare held n' 56 [c1, c2, c3, c4, c5] = some (ys[1]'(by rw [hy]; decide)) := by rw [← e1, ← g1]; show _ = DataW.trod _ _ _ _ _ _ _ 56 ((List.drop 1 [c0, c1, c2, c3, c4, c5, c6, c7, c8, c9, c10]).take (Try.prog.cellsOf 56)); rw [k1]; rfl
    obtain ⟨q1_dh, q1_skew, q1_set, q1_wd, q1_off, r1, h1_0, h1_1, h1_2, h1_3⟩ := tc_Step g1
    simp only [List.cons.injEq, and_true] at r1
    have g2 := hf 2 _ rfl
    have k2 : Try.prog.cellsOf 56 = 5 := by kernel_rfl
    have e2 : ys[2]? = some (ys[2]'(by rw [hy]; decide)) := List.getElem?_eq_getElem _
    replace g2 : DataW.trod enc Try.prog w base spare held n' 56 [c6, c7, c8, c9, c10] = some (ys[2]'(by rw [hy]; decide)) := by rw [← e2, ← g2]; show _ = DataW.trod _ _ _ _ _ _ _ 56 ((List.drop 6 [c0, c1, c2, c3, c4, c5, c6, c7, c8, c9, c10]).take (Try.prog.cellsOf 56)); rw [k2]; rfl
    obtain ⟨q2_dh, q2_skew, q2_set, q2_wd, q2_off, r2, h2_0, h2_1, h2_2, h2_3⟩ := tc_Step g2
    simp only [List.cons.injEq, and_true] at r2
    exact ⟨q0, q1_dh, q1_skew, q1_set, q1_wd, q1_off, q2_dh, q2_skew, q2_set, q2_wd, q2_off, by simp [r0, r1, r2], h0_0, h1_0, h1_1, h1_2, h1_3, h2_0, h2_1, h2_2, h2_3⟩
set_option maxRecDepth 100000 in
theorem tc_SlPair {H : Type} {enc : TypeId × Value → H} {w : World} {base : Nat} {spare : Nat → Bool} {held : Bool} {n : Nat} {cs : List Value} {y : DataW H × List MemPlace} (h : DataW.trod enc Try.prog w base spare held n 59 cs = some y) : ∃ (zA : Option Addr) (zC : Nat) (z : List VPair), cs = [.slice zA z.length zC] ∧ SlOk w 11 zA zC (z.flatMap VPair.cells) ∧ z.length ≤ zC ∧ zC ≤ maxLen ∧ ∀ u_ ∈ z, VPair.ok w u_ := by
  obtain ⟨A, c, xs, hcs, hs, hl, hm, hx⟩ := slice_open (E := VPair) (size := 11) (ce := fun x => VPair.cells x) (ok := fun x => VPair.ok w x) Try.underlying59 (by kernel_rfl) (fun n cs y h => by obtain ⟨dd, a_dh, a_skew, a_set, a_wd, a_off, b_dh, b_skew, b_set, b_wd, b_off, e, hw⟩ := tc_Pair h; exact ⟨⟨dd, a_dh, a_skew, a_set, a_wd, a_off, b_dh, b_skew, b_set, b_wd, b_off⟩, e, hw⟩) (fun x => rfl) (by decide) h
  exact ⟨A, c, xs, hcs, hs, hl, hm, hx⟩
set_option maxRecDepth 100000 in
theorem open_pairs {H : Type} {enc : TypeId × Value → H} {w : World} {base : Nat} {spare : Nat → Bool} {held : Bool} {r : Reach} {b0 : Nat} {v : Value} {d : DataW H} {p : List MemPlace} (hv : Value.okWide Try.prog w r b0 59 v) (h : DataW.Trod enc Try.prog w base spare held 59 v d p) :
    ∃ (sA : Option Addr) (sC : Nat) (s : List VPair), v = .slice sA s.length sC ∧ SlOk w 11 sA sC (s.flatMap VPair.cells) ∧ s.length ≤ sC ∧ sC ≤ maxLen ∧ ∀ u_ ∈ s, VPair.ok w u_ := by
  obtain ⟨a, l, c, rfl⟩ := okWide_slice Try.underlying59 hv
  obtain ⟨fuel, hf⟩ := h
  obtain ⟨sA, sC, s, e, hw⟩ := tc_SlPair hf
  refine ⟨sA, sC, s, ?_, hw⟩
  simpa [Value.cells] using e
set_option maxRecDepth 100000 in
theorem tc_Basis {H : Type} {enc : TypeId × Value → H} {w : World} {base : Nat} {spare : Nat → Bool} {held : Bool} {n : Nat} {cs : List Value} {y : DataW H × List MemPlace} (h : DataW.trod enc Try.prog w base spare held n 68 cs = some y) : ∃ (wd : Int) (dd : Int), cs = [.int .i64 wd, .int .u32 dd] ∧ (Lit.int .i64 wd).wf = true ∧ (Lit.int .u32 dd).wf = true := by
  obtain ⟨ys, n', _, _, hl, hy, hf⟩ := DataW.trod_struct Try.underlying68 h
  rw [show Try.prog.cellsOf 68 = 2 from by kernel_rfl] at hl
  match cs, hl with
  | [c0, c1], _ =>
    have g0 := hf 0 _ rfl
    have k0 : Try.prog.cellsOf 2 = 1 := by kernel_rfl
    have e0 : ys[0]? = some (ys[0]'(by rw [hy]; decide)) := List.getElem?_eq_getElem _
    replace g0 : DataW.trod enc Try.prog w base spare held n' 2 [c0] = some (ys[0]'(by rw [hy]; decide)) := by rw [← e0, ← g0]; show _ = DataW.trod _ _ _ _ _ _ _ 2 ((List.drop 0 [c0, c1]).take (Try.prog.cellsOf 2)); rw [k0]; rfl
    obtain ⟨q0, r0, h0_0⟩ := tc_int64 g0
    simp only [List.cons.injEq, and_true] at r0
    have g1 := hf 1 _ rfl
    have k1 : Try.prog.cellsOf 54 = 1 := by kernel_rfl
    have e1 : ys[1]? = some (ys[1]'(by rw [hy]; decide)) := List.getElem?_eq_getElem _
    replace g1 : DataW.trod enc Try.prog w base spare held n' 54 [c1] = some (ys[1]'(by rw [hy]; decide)) := by rw [← e1, ← g1]; show _ = DataW.trod _ _ _ _ _ _ _ 54 ((List.drop 1 [c0, c1]).take (Try.prog.cellsOf 54)); rw [k1]; rfl
    obtain ⟨q1, r1, h1_0⟩ := tc_uint32 g1
    simp only [List.cons.injEq, and_true] at r1
    exact ⟨q0, q1, by simp [r0, r1], h0_0, h1_0⟩
set_option maxRecDepth 100000 in
theorem open_basis {H : Type} {enc : TypeId × Value → H} {w : World} {base : Nat} {spare : Nat → Bool} {held : Bool} {r : Reach} {b0 : Nat} {v : Value} {d : DataW H} {p : List MemPlace} (hv : Value.okWide Try.prog w r b0 68 v) (h : DataW.Trod enc Try.prog w base spare held 68 v d p) :
    ∃ (wd : Int) (dd : Int), v = .agg #[.int .i64 wd, .int .u32 dd] ∧ (Lit.int .i64 wd).wf = true ∧ (Lit.int .u32 dd).wf = true := by
  obtain ⟨cs, rfl, _⟩ := okWide_struct Try.underlying68 hv
  obtain ⟨fuel, hf⟩ := h
  obtain ⟨wd, dd, e, hw⟩ := tc_Basis hf
  refine ⟨wd, dd, ?_, hw⟩
  obtain ⟨l⟩ := cs
  simp only [Value.cells] at e
  rw [show l = _ from e]
set_option maxRecDepth 100000 in
theorem tc_Sluint32 {H : Type} {enc : TypeId × Value → H} {w : World} {base : Nat} {spare : Nat → Bool} {held : Bool} {n : Nat} {cs : List Value} {y : DataW H × List MemPlace} (h : DataW.trod enc Try.prog w base spare held n 64 cs = some y) : ∃ (zA : Option Addr) (zC : Nat) (z : List Int), cs = [.slice zA z.length zC] ∧ SlOk w 1 zA zC (z.map (Value.int .u32)) ∧ z.length ≤ zC ∧ zC ≤ maxLen ∧ ∀ u_ ∈ z, (Lit.int .u32 u_).wf = true := by
  obtain ⟨A, c, xs, hcs, hs, hl, hm, hx⟩ := slice_open (E := Int) (size := 1) (ce := fun x => [.int .u32 x]) (ok := fun x => (Lit.int .u32 x).wf = true) Try.underlying64 (by kernel_rfl) (fun n cs y h => by obtain ⟨z, e, hw⟩ := tc_uint32 h; exact ⟨z, e, hw⟩) (fun x => rfl) (by decide) h
  exact ⟨A, c, xs, hcs, by simpa only [flatMap_single] using hs, hl, hm, hx⟩
set_option maxRecDepth 100000 in
theorem open_u32s {H : Type} {enc : TypeId × Value → H} {w : World} {base : Nat} {spare : Nat → Bool} {held : Bool} {r : Reach} {b0 : Nat} {v : Value} {d : DataW H} {p : List MemPlace} (hv : Value.okWide Try.prog w r b0 64 v) (h : DataW.Trod enc Try.prog w base spare held 64 v d p) :
    ∃ (sA : Option Addr) (sC : Nat) (s : List Int), v = .slice sA s.length sC ∧ SlOk w 1 sA sC (s.map (Value.int .u32)) ∧ s.length ≤ sC ∧ sC ≤ maxLen ∧ ∀ u_ ∈ s, (Lit.int .u32 u_).wf = true := by
  obtain ⟨a, l, c, rfl⟩ := okWide_slice Try.underlying64 hv
  obtain ⟨fuel, hf⟩ := h
  obtain ⟨sA, sC, s, e, hw⟩ := tc_Sluint32 hf
  refine ⟨sA, sC, s, ?_, hw⟩
  simpa [Value.cells] using e
theorem trod_float {P : Program} {H : Type} {enc : TypeId × Value → H} {w : World} {base : Nat} {spare : Nat → Bool} {held : Bool} {t : TypeId} {k : FloatKind} {n : Nat} {cs : List Value} {x : DataW H × List MemPlace} (ht : P.underlying t = some (.float k)) (h : DataW.trod enc P w base spare held n t cs = some x) : ∃ b, cs = [.float k b] ∧ x = (.lit (.float k b), []) ∧ (Lit.float k b).wf = true := by
  cases n with
  | zero => simp [DataW.trod] at h
  | succ n =>
    unfold DataW.trod at h
    rw [ht] at h
    split at h <;> simp_all
theorem tc_float64 {H : Type} {enc : TypeId × Value → H} {w : World} {base : Nat} {spare : Nat → Bool} {held : Bool} {n : Nat} {cs : List Value} {y : DataW H × List MemPlace} (h : DataW.trod enc Try.prog w base spare held n 22 cs = some y) : ∃ (z : Nat), cs = [.float .f64 z] ∧ (Lit.float .f64 z).wf = true := by
  obtain ⟨z, e, _, hw⟩ := trod_float Try.underlying22 h
  exact ⟨z, e, hw⟩
set_option maxRecDepth 100000 in
theorem tc_Sl2float64 {H : Type} {enc : TypeId × Value → H} {w : World} {base : Nat} {spare : Nat → Bool} {held : Bool} {n : Nat} {cs : List Value} {y : DataW H × List MemPlace} (h : DataW.trod enc Try.prog w base spare held n 58 cs = some y) : ∃ (z0 : Nat) (z1 : Nat), cs = [.float .f64 z0, .float .f64 z1] ∧ (Lit.float .f64 z0).wf = true ∧ (Lit.float .f64 z1).wf = true := by
  obtain ⟨ys, n', _, _, hl, hy, hf⟩ := DataW.trod_array Try.underlying58 h
  rw [show Try.prog.cellsOf 58 = 2 from by kernel_rfl] at hl
  match cs, hl with
  | [c0, c1], _ =>
    have g0 := hf 0 (by omega)
    have k0 : Try.prog.cellsOf 22 = 1 := by kernel_rfl
    have e0 : ys[0]? = some (ys[0]'(by rw [hy]; decide)) := List.getElem?_eq_getElem _
    replace g0 : DataW.trod enc Try.prog w base spare held n' 22 [c0] = some (ys[0]'(by rw [hy]; decide)) := by rw [← e0, ← g0]; rw [k0]; rfl
    obtain ⟨q0, r0, h0_0⟩ := tc_float64 g0
    simp only [List.cons.injEq, and_true] at r0
    have g1 := hf 1 (by omega)
    have k1 : Try.prog.cellsOf 22 = 1 := by kernel_rfl
    have e1 : ys[1]? = some (ys[1]'(by rw [hy]; decide)) := List.getElem?_eq_getElem _
    replace g1 : DataW.trod enc Try.prog w base spare held n' 22 [c1] = some (ys[1]'(by rw [hy]; decide)) := by rw [← e1, ← g1]; rw [k1]; rfl
    obtain ⟨q1, r1, h1_0⟩ := tc_float64 g1
    simp only [List.cons.injEq, and_true] at r1
    exact ⟨q0, q1, by simp [r0, r1], h0_0, h1_0⟩
theorem okWide_array {P : Program} {w : World} {r : Reach} {b0 : Nat} {t e : TypeId} {n : Nat} {v : Value} (ht : P.underlying t = some (.array e n)) (h : Value.okWide P w r b0 t v) : ∃ cs, v = .agg cs ∧ True := by
  simp only [Value.okWide, ht] at h
  obtain ⟨cs, h1, _⟩ := h
  exact ⟨cs, h1, trivial⟩
set_option maxRecDepth 100000 in
theorem open_rates {H : Type} {enc : TypeId × Value → H} {w : World} {base : Nat} {spare : Nat → Bool} {held : Bool} {r : Reach} {b0 : Nat} {v : Value} {d : DataW H} {p : List MemPlace} (hv : Value.okWide Try.prog w r b0 58 v) (h : DataW.Trod enc Try.prog w base spare held 58 v d p) :
    ∃ (s0 : Nat) (s1 : Nat), v = .agg #[.float .f64 s0, .float .f64 s1] ∧ (Lit.float .f64 s0).wf = true ∧ (Lit.float .f64 s1).wf = true := by
  obtain ⟨cs, rfl, _⟩ := okWide_array Try.underlying58 hv
  obtain ⟨fuel, hf⟩ := h
  obtain ⟨s0, s1, e, hw⟩ := tc_Sl2float64 hf
  refine ⟨s0, s1, ?_, hw⟩
  obtain ⟨l⟩ := cs
  simp only [Value.cells] at e
  rw [show l = _ from e]
set_option maxRecDepth 100000 in
theorem open_call06 {H : Type} {enc : TypeId × Value → H} {w : World} {base : Nat} {spare : Nat → Bool} {held : Bool} {r : Reach} {b0 : Nat} {v : Value} {d : DataW H} {p : List MemPlace} (hv : Value.okWide Try.prog w r b0 34 v) (h : DataW.Trod enc Try.prog w base spare held 34 v d p) :
    ∃ (kind : Int) (hh : Int) (tt : Int) (wd : Int), v = .agg #[.int .i64 kind, .int .i64 hh, .int .i64 tt, .int .i64 wd] ∧ (Lit.int .i64 kind).wf = true ∧ (Lit.int .i64 hh).wf = true ∧ (Lit.int .i64 tt).wf = true ∧ (Lit.int .i64 wd).wf = true := by
  obtain ⟨cs, rfl, _⟩ := okWide_struct Try.underlying34 hv
  obtain ⟨fuel, hf⟩ := h
  obtain ⟨kind, hh, tt, wd, e, hw⟩ := tc_Call06 hf
  refine ⟨kind, hh, tt, wd, ?_, hw⟩
  obtain ⟨l⟩ := cs
  simp only [Value.cells] at e
  rw [show l = _ from e]
end Go.Proofs.Ytdemonageoagiaa
