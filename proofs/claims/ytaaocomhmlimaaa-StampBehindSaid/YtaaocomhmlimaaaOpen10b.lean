/- Arguments laid open (printed by a program of ours). -/
import Derived.Test.YtaaocomhmlimaaaOpenA
import Derived.Test.YtaaocomhmlimaaaStampI
set_option linter.unusedSimpArgs false
set_option linter.unusedVariables false
namespace Go.Proofs.Ytaaocomhmlimaaa
open Go.ChangeShapes Go.WideShapes Go.ChangeAt Go.RowKit Go.Joins
/-- a moietylaw10.Turn -/
structure VTurn where
  dd : Int
  sa : Int
  sb : Int
  who : Bool
  wait : Bool
def VTurn.cells (x : VTurn) : List Value := [.int .u16 x.dd, .int .i64 x.sa, .int .i64 x.sb, .bool x.who, .bool x.wait]
def VTurn.ok (w : World) (x : VTurn) : Prop := (Lit.int .u16 x.dd).wf = true ∧ (Lit.int .i64 x.sa).wf = true ∧ (Lit.int .i64 x.sb).wf = true
theorem tc_uint16 {H : Type} {enc : TypeId × Value → H} {w : World} {base : Nat} {spare : Nat → Bool} {held : Bool} {n : Nat} {cs : List Value} {y : DataW H × List MemPlace} (h : DataW.trod enc Try.prog w base spare held n 34 cs = some y) : ∃ (z : Int), cs = [.int .u16 z] ∧ (Lit.int .u16 z).wf = true := by
  obtain ⟨z, e, _, hw⟩ := DataW.trod_int Try.underlying34 h
  exact ⟨z, e, hw⟩
theorem tc_int64 {H : Type} {enc : TypeId × Value → H} {w : World} {base : Nat} {spare : Nat → Bool} {held : Bool} {n : Nat} {cs : List Value} {y : DataW H × List MemPlace} (h : DataW.trod enc Try.prog w base spare held n 2 cs = some y) : ∃ (z : Int), cs = [.int .i64 z] ∧ (Lit.int .i64 z).wf = true := by
  obtain ⟨z, e, _, hw⟩ := DataW.trod_int Try.underlying2 h
  exact ⟨z, e, hw⟩
theorem tc_bool {H : Type} {enc : TypeId × Value → H} {w : World} {base : Nat} {spare : Nat → Bool} {held : Bool} {n : Nat} {cs : List Value} {y : DataW H × List MemPlace} (h : DataW.trod enc Try.prog w base spare held n 4 cs = some y) : ∃ (z : Bool), cs = [.bool z] := by
  obtain ⟨z, e, _⟩ := DataW.trod_bool Try.underlying4 h
  exact ⟨z, e⟩
set_option maxRecDepth 100000 in
theorem tc_Turn {H : Type} {enc : TypeId × Value → H} {w : World} {base : Nat} {spare : Nat → Bool} {held : Bool} {n : Nat} {cs : List Value} {y : DataW H × List MemPlace} (h : DataW.trod enc Try.prog w base spare held n 36 cs = some y) : ∃ (dd : Int) (sa : Int) (sb : Int) (who : Bool) (wait : Bool), cs = [.int .u16 dd, .int .i64 sa, .int .i64 sb, .bool who, .bool wait] ∧ (Lit.int .u16 dd).wf = true ∧ (Lit.int .i64 sa).wf = true ∧ (Lit.int .i64 sb).wf = true := by
  obtain ⟨ys, n', _, _, hl, hy, hf⟩ := DataW.trod_struct Try.underlying36 h
  rw [show Try.prog.cellsOf 36 = 5 from by kernel_rfl] at hl
  match cs, hl with
  | [c0, c1, c2, c3, c4], _ =>
    have g0 := hf 0 _ rfl
    have k0 : Try.prog.cellsOf 34 = 1 := by kernel_rfl
    have e0 : ys[0]? = some (ys[0]'(by rw [hy]; decide)) := List.getElem?_eq_getElem _
    replace g0 : DataW.trod enc Try.prog w base spare held n' 34 [c0] = some (ys[0]'(by rw [hy]; decide)) := by rw [← e0, ← g0]; show _ = DataW.trod _ _ _ _ _ _ _ 34 ((List.drop 0 [c0, c1, c2, c3, c4]).take (Try.prog.cellsOf 34)); rw [k0]; rfl
    obtain ⟨q0, r0, h0_0⟩ := tc_uint16 g0
    simp only [List.cons.injEq, and_true] at r0
    have g1 := hf 1 _ rfl
    have k1 : Try.prog.cellsOf 2 = 1 := by kernel_rfl
    have e1 : ys[1]? = some (ys[1]'(by rw [hy]; decide)) := List.getElem?_eq_getElem _
    replace g1 : DataW.trod enc Try.prog w base spare held n' 2 [c1] = some (ys[1]'(by rw [hy]; decide)) := by rw [← e1, ← g1]; show _ = DataW.trod _ _ _ _ _ _ _ 2 ((List.drop 1 [c0, c1, c2, c3, c4]).take (Try.prog.cellsOf 2)); rw [k1]; rfl
    obtain ⟨q1, r1, h1_0⟩ := tc_int64 g1
    simp only [List.cons.injEq, and_true] at r1
    have g2 := hf 2 _ rfl
    have k2 : Try.prog.cellsOf 2 = 1 := by kernel_rfl
    have e2 : ys[2]? = some (ys[2]'(by rw [hy]; decide)) := List.getElem?_eq_getElem _
    replace g2 : DataW.trod enc Try.prog w base spare held n' 2 [c2] = some (ys[2]'(by rw [hy]; decide)) := by rw [← e2, ← g2]; show _ = DataW.trod _ _ _ _ _ _ _ 2 ((List.drop 2 [c0, c1, c2, c3, c4]).take (Try.prog.cellsOf 2)); rw [k2]; rfl
    obtain ⟨q2, r2, h2_0⟩ := tc_int64 g2
    simp only [List.cons.injEq, and_true] at r2
    have g3 := hf 3 _ rfl
    have k3 : Try.prog.cellsOf 4 = 1 := by kernel_rfl
    have e3 : ys[3]? = some (ys[3]'(by rw [hy]; decide)) := List.getElem?_eq_getElem _
    replace g3 : DataW.trod enc Try.prog w base spare held n' 4 [c3] = some (ys[3]'(by rw [hy]; decide)) := by rw [← e3, ← g3]; show _ = DataW.trod _ _ _ _ _ _ _ 4 ((List.drop 3 [c0, c1, c2, c3, c4]).take (Try.prog.cellsOf 4)); rw [k3]; rfl
    obtain ⟨q3, r3⟩ := tc_bool g3
    simp only [List.cons.injEq, and_true] at r3
    have g4 := hf 4 _ rfl
    have k4 : Try.prog.cellsOf 4 = 1 := by kernel_rfl
    have e4 : ys[4]? = some (ys[4]'(by rw [hy]; decide)) := List.getElem?_eq_getElem _
    replace g4 : DataW.trod enc Try.prog w base spare held n' 4 [c4] = some (ys[4]'(by rw [hy]; decide)) := by rw [← e4, ← g4]; show _ = DataW.trod _ _ _ _ _ _ _ 4 ((List.drop 4 [c0, c1, c2, c3, c4]).take (Try.prog.cellsOf 4)); rw [k4]; rfl
    obtain ⟨q4, r4⟩ := tc_bool g4
    simp only [List.cons.injEq, and_true] at r4
    exact ⟨q0, q1, q2, q3, q4, by simp [r0, r1, r2, r3, r4], h0_0, h1_0, h2_0⟩
set_option maxRecDepth 100000 in
theorem tc_SlTurn {H : Type} {enc : TypeId × Value → H} {w : World} {base : Nat} {spare : Nat → Bool} {held : Bool} {n : Nat} {cs : List Value} {y : DataW H × List MemPlace} (h : DataW.trod enc Try.prog w base spare held n 22 cs = some y) : ∃ (zA : Option Addr) (zC : Nat) (z : List VTurn), cs = [.slice zA z.length zC] ∧ SlOk w 5 zA zC (z.flatMap VTurn.cells) ∧ z.length ≤ zC ∧ zC ≤ maxLen ∧ ∀ u_ ∈ z, VTurn.ok w u_ := by
  obtain ⟨A, c, xs, hcs, hs, hl, hm, hx⟩ := slice_open (E := VTurn) (size := 5) (ce := fun x => VTurn.cells x) (ok := fun x => VTurn.ok w x) Try.underlying22 (by kernel_rfl) (fun n cs y h => by obtain ⟨dd, sa, sb, who, wait, e, hw⟩ := tc_Turn h; exact ⟨⟨dd, sa, sb, who, wait⟩, e, hw⟩) (fun x => rfl) (by decide) h
  exact ⟨A, c, xs, hcs, hs, hl, hm, hx⟩
set_option maxRecDepth 100000 in
theorem open_turns {H : Type} {enc : TypeId × Value → H} {w : World} {base : Nat} {spare : Nat → Bool} {held : Bool} {r : Reach} {b0 : Nat} {v : Value} {d : DataW H} {p : List MemPlace} (hv : Value.okWide Try.prog w r b0 22 v) (h : DataW.Trod enc Try.prog w base spare held 22 v d p) :
    ∃ (sA : Option Addr) (sC : Nat) (s : List VTurn), v = .slice sA s.length sC ∧ SlOk w 5 sA sC (s.flatMap VTurn.cells) ∧ s.length ≤ sC ∧ sC ≤ maxLen ∧ ∀ u_ ∈ s, VTurn.ok w u_ := by
  obtain ⟨a, l, c, rfl⟩ := okWide_slice Try.underlying22 hv
  obtain ⟨fuel, hf⟩ := h
  obtain ⟨sA, sC, s, e, hw⟩ := tc_SlTurn hf
  refine ⟨sA, sC, s, ?_, hw⟩
  simpa [Value.cells] using e
end Go.Proofs.Ytaaocomhmlimaaa
