/- Arguments laid open (printed by a program of ours). -/
import Derived.Test.YtajojpfenlafbaaOpenA
import Derived.Test.YtajojpfenlafbaaStampI
set_option linter.unusedSimpArgs false
set_option linter.unusedVariables false
namespace Go.Proofs.Ytajojpfenlafbaa
open Go.ChangeShapes Go.WideShapes Go.ChangeAt Go.RowKit Go.Joins
/-- a api.Span -/
structure VSpan where
  lo : Int
  hi : Int
def VSpan.cells (x : VSpan) : List Value := [.int .i64 x.lo, .int .i64 x.hi]
def VSpan.ok (w : World) (x : VSpan) : Prop := (Lit.int .i64 x.lo).wf = true ∧ (Lit.int .i64 x.hi).wf = true
/-- a moietylaw23.Ask -/
structure VAsk where
  now_lo : Int
  now_hi : Int
  leader : Int
  length : Int
  again : Bool
def VAsk.cells (x : VAsk) : List Value := [.int .i64 x.now_lo, .int .i64 x.now_hi, .int .i64 x.leader, .int .i64 x.length, .bool x.again]
def VAsk.ok (w : World) (x : VAsk) : Prop := (Lit.int .i64 x.now_lo).wf = true ∧ (Lit.int .i64 x.now_hi).wf = true ∧ (Lit.int .i64 x.leader).wf = true ∧ (Lit.int .i64 x.length).wf = true
/-- a moietylaw23.Heard -/
structure VHeard23 where
  voter : Int
  til : Int
  now_lo : Int
  now_hi : Int
  aboveA : Option Addr
  aboveC : Nat
  above : List Int
def VHeard23.cells (x : VHeard23) : List Value := [.int .i64 x.voter, .int .i64 x.til, .int .i64 x.now_lo, .int .i64 x.now_hi, .slice x.aboveA x.above.length x.aboveC]
def VHeard23.ok (w : World) (x : VHeard23) : Prop := (Lit.int .i64 x.voter).wf = true ∧ (Lit.int .i64 x.til).wf = true ∧ (Lit.int .i64 x.now_lo).wf = true ∧ (Lit.int .i64 x.now_hi).wf = true ∧ SlOk w 1 x.aboveA x.aboveC (x.above.map (Value.int .i64)) ∧ x.above.length ≤ x.aboveC ∧ x.aboveC ≤ maxLen ∧ ∀ u_ ∈ x.above, (Lit.int .i64 u_).wf = true
/-- a moietylaw23.Turn -/
structure VTurn23 where
  dd : Int
  ln : Int
  sk0 : Int
  sk1 : Int
  sk2 : Int
  sk3 : Int
  sk4 : Int
  sk5 : Int
  sk6 : Int
  sk7 : Int
  leader : Int
  voter : Int
  heard : Bool
  again : Bool
  give : Bool
def VTurn23.cells (x : VTurn23) : List Value := [.int .u16 x.dd, .int .u16 x.ln, .int .i8 x.sk0, .int .i8 x.sk1, .int .i8 x.sk2, .int .i8 x.sk3, .int .i8 x.sk4, .int .i8 x.sk5, .int .i8 x.sk6, .int .i8 x.sk7, .int .u8 x.leader, .int .u8 x.voter, .bool x.heard, .bool x.again, .bool x.give]
def VTurn23.ok (w : World) (x : VTurn23) : Prop := (Lit.int .u16 x.dd).wf = true ∧ (Lit.int .u16 x.ln).wf = true ∧ (Lit.int .i8 x.sk0).wf = true ∧ (Lit.int .i8 x.sk1).wf = true ∧ (Lit.int .i8 x.sk2).wf = true ∧ (Lit.int .i8 x.sk3).wf = true ∧ (Lit.int .i8 x.sk4).wf = true ∧ (Lit.int .i8 x.sk5).wf = true ∧ (Lit.int .i8 x.sk6).wf = true ∧ (Lit.int .i8 x.sk7).wf = true ∧ (Lit.int .u8 x.leader).wf = true ∧ (Lit.int .u8 x.voter).wf = true
theorem tc_int64 {H : Type} {enc : TypeId × Value → H} {w : World} {base : Nat} {spare : Nat → Bool} {held : Bool} {n : Nat} {cs : List Value} {y : DataW H × List MemPlace} (h : DataW.trod enc Try.prog w base spare held n 2 cs = some y) : ∃ (z : Int), cs = [.int .i64 z] ∧ (Lit.int .i64 z).wf = true := by
  obtain ⟨z, e, _, hw⟩ := DataW.trod_int Try.underlying2 h
  exact ⟨z, e, hw⟩
set_option maxRecDepth 100000 in
theorem tc_Span {H : Type} {enc : TypeId × Value → H} {w : World} {base : Nat} {spare : Nat → Bool} {held : Bool} {n : Nat} {cs : List Value} {y : DataW H × List MemPlace} (h : DataW.trod enc Try.prog w base spare held n 33 cs = some y) : ∃ (lo : Int) (hi : Int), cs = [.int .i64 lo, .int .i64 hi] ∧ (Lit.int .i64 lo).wf = true ∧ (Lit.int .i64 hi).wf = true := by
  obtain ⟨ys, n', _, _, hl, hy, hf⟩ := DataW.trod_struct Try.underlying33 h
  rw [show Try.prog.cellsOf 33 = 2 from by kernel_rfl] at hl
  match cs, hl with
  | [c0, c1], _ =>
    have g0 := hf 0 _ rfl
    have k0 : Try.prog.cellsOf 2 = 1 := by kernel_rfl
    have e0 : ys[0]? = some (ys[0]'(by rw [hy]; decide)) := List.getElem?_eq_getElem _
    replace g0 : DataW.trod enc Try.prog w base spare held n' 2 [c0] = some (ys[0]'(by rw [hy]; decide)) := by rw [← e0, ← g0]; show _ = DataW.trod _ _ _ _ _ _ _ 2 ((List.drop 0 [c0, c1]).take (Try.prog.cellsOf 2)); rw [k0]; rfl
    obtain ⟨q0, r0, h0_0⟩ := tc_int64 g0
    simp only [List.cons.injEq, and_true] at r0
    have g1 := hf 1 _ rfl
    have k1 : Try.prog.cellsOf 2 = 1 := by kernel_rfl
    have e1 : ys[1]? = some (ys[1]'(by rw [hy]; decide)) := List.getElem?_eq_getElem _
    replace g1 : DataW.trod enc Try.prog w base spare held n' 2 [c1] = some (ys[1]'(by rw [hy]; decide)) := by rw [← e1, ← g1]; show _ = DataW.trod _ _ _ _ _ _ _ 2 ((List.drop 1 [c0, c1]).take (Try.prog.cellsOf 2)); rw [k1]; rfl
    obtain ⟨q1, r1, h1_0⟩ := tc_int64 g1
    simp only [List.cons.injEq, and_true] at r1
    exact ⟨q0, q1, by simp [r0, r1], h0_0, h1_0⟩
theorem tc_int {H : Type} {enc : TypeId × Value → H} {w : World} {base : Nat} {spare : Nat → Bool} {held : Bool} {n : Nat} {cs : List Value} {y : DataW H × List MemPlace} (h : DataW.trod enc Try.prog w base spare held n 3 cs = some y) : ∃ (z : Int), cs = [.int .i64 z] ∧ (Lit.int .i64 z).wf = true := by
  obtain ⟨z, e, _, hw⟩ := DataW.trod_int Try.underlying3 h
  exact ⟨z, e, hw⟩
theorem tc_bool {H : Type} {enc : TypeId × Value → H} {w : World} {base : Nat} {spare : Nat → Bool} {held : Bool} {n : Nat} {cs : List Value} {y : DataW H × List MemPlace} (h : DataW.trod enc Try.prog w base spare held n 4 cs = some y) : ∃ (z : Bool), cs = [.bool z] := by
  obtain ⟨z, e, _⟩ := DataW.trod_bool Try.underlying4 h
  exact ⟨z, e⟩
set_option maxRecDepth 100000 in
theorem tc_Ask {H : Type} {enc : TypeId × Value → H} {w : World} {base : Nat} {spare : Nat → Bool} {held : Bool} {n : Nat} {cs : List Value} {y : DataW H × List MemPlace} (h : DataW.trod enc Try.prog w base spare held n 55 cs = some y) : ∃ (now_lo : Int) (now_hi : Int) (leader : Int) (length : Int) (again : Bool), cs = [.int .i64 now_lo, .int .i64 now_hi, .int .i64 leader, .int .i64 length, .bool again] ∧ (Lit.int .i64 now_lo).wf = true ∧ (Lit.int .i64 now_hi).wf = true ∧ (Lit.int .i64 leader).wf = true ∧ (Lit.int .i64 length).wf = true := by
  obtain ⟨ys, n', _, _, hl, hy, hf⟩ := DataW.trod_struct Try.underlying55 h
  rw [show Try.prog.cellsOf 55 = 5 from by kernel_rfl] at hl
  match cs, hl with
  | [c0, c1, c2, c3, c4], _ =>
    have g0 := hf 0 _ rfl
    have k0 : Try.prog.cellsOf 33 = 2 := by kernel_rfl
    have e0 : ys[0]? = some (ys[0]'(by rw [hy]; decide)) := List.getElem?_eq_getElem _
    replace g0 : DataW.trod enc Try.prog w base spare held n' 33 [c0, c1] = some (ys[0]'(by rw [hy]; decide)) := by rw [← e0, ← g0]; show _ = DataW.trod _ _ _ _ _ _ _ 33 ((List.drop 0 [c0, c1, c2, c3, c4]).take (Try.prog.cellsOf 33)); rw [k0]; rfl
    obtain ⟨q0_lo, q0_hi, r0, h0_0, h0_1⟩ := tc_Span g0
    simp only [List.cons.injEq, and_true] at r0
    have g1 := hf 1 _ rfl
    have k1 : Try.prog.cellsOf 3 = 1 := by kernel_rfl
    have e1 : ys[1]? = some (ys[1]'(by rw [hy]; decide)) := List.getElem?_eq_getElem _
    replace g1 : DataW.trod enc Try.prog w base spare held n' 3 [c2] = some (ys[1]'(by rw [hy]; decide)) := by rw [← e1, ← g1]; show _ = DataW.trod _ _ _ _ _ _ _ 3 ((List.drop 2 [c0, c1, c2, c3, c4]).take (Try.prog.cellsOf 3)); rw [k1]; rfl
    obtain ⟨q1, r1, h1_0⟩ := tc_int g1
    simp only [List.cons.injEq, and_true] at r1
    have g2 := hf 2 _ rfl
    have k2 : Try.prog.cellsOf 2 = 1 := by kernel_rfl
    have e2 : ys[2]? = some (ys[2]'(by rw [hy]; decide)) := List.getElem?_eq_getElem _
    replace g2 : DataW.trod enc Try.prog w base spare held n' 2 [c3] = some (ys[2]'(by rw [hy]; decide)) := by rw [← e2, ← g2]; show _ = DataW.trod _ _ _ _ _ _ _ 2 ((List.drop 3 [c0, c1, c2, c3, c4]).take (Try.prog.cellsOf 2)); rw [k2]; rfl
    obtain ⟨q2, r2, h2_0⟩ := tc_int64 g2
    simp only [List.cons.injEq, and_true] at r2
    have g3 := hf 3 _ rfl
    have k3 : Try.prog.cellsOf 4 = 1 := by kernel_rfl
    have e3 : ys[3]? = some (ys[3]'(by rw [hy]; decide)) := List.getElem?_eq_getElem _
    replace g3 : DataW.trod enc Try.prog w base spare held n' 4 [c4] = some (ys[3]'(by rw [hy]; decide)) := by rw [← e3, ← g3]; show _ = DataW.trod _ _ _ _ _ _ _ 4 ((List.drop 4 [c0, c1, c2, c3, c4]).take (Try.prog.cellsOf 4)); rw [k3]; rfl
    obtain ⟨q3, r3⟩ := tc_bool g3
    simp only [List.cons.injEq, and_true] at r3
    exact ⟨q0_lo, q0_hi, q1, q2, q3, by simp [r0, r1, r2, r3], h0_0, h0_1, h1_0, h2_0⟩
set_option maxRecDepth 100000 in
theorem tc_SlAsk {H : Type} {enc : TypeId × Value → H} {w : World} {base : Nat} {spare : Nat → Bool} {held : Bool} {n : Nat} {cs : List Value} {y : DataW H × List MemPlace} (h : DataW.trod enc Try.prog w base spare held n 49 cs = some y) : ∃ (zA : Option Addr) (zC : Nat) (z : List VAsk), cs = [.slice zA z.length zC] ∧ SlOk w 5 zA zC (z.flatMap VAsk.cells) ∧ z.length ≤ zC ∧ zC ≤ maxLen ∧ ∀ u_ ∈ z, VAsk.ok w u_ := by
  obtain ⟨A, c, xs, hcs, hs, hl, hm, hx⟩ := slice_open (E := VAsk) (size := 5) (ce := fun x => VAsk.cells x) (ok := fun x => VAsk.ok w x) Try.underlying49 (by kernel_rfl) (fun n cs y h => by obtain ⟨now_lo, now_hi, leader, length, again, e, hw⟩ := tc_Ask h; exact ⟨⟨now_lo, now_hi, leader, length, again⟩, e, hw⟩) (fun x => rfl) (by decide) h
  exact ⟨A, c, xs, hcs, hs, hl, hm, hx⟩
set_option maxRecDepth 100000 in
theorem open_asks {H : Type} {enc : TypeId × Value → H} {w : World} {base : Nat} {spare : Nat → Bool} {held : Bool} {r : Reach} {b0 : Nat} {v : Value} {d : DataW H} {p : List MemPlace} (hv : Value.okWide Try.prog w r b0 49 v) (h : DataW.Trod enc Try.prog w base spare held 49 v d p) :
    ∃ (sA : Option Addr) (sC : Nat) (s : List VAsk), v = .slice sA s.length sC ∧ SlOk w 5 sA sC (s.flatMap VAsk.cells) ∧ s.length ≤ sC ∧ sC ≤ maxLen ∧ ∀ u_ ∈ s, VAsk.ok w u_ := by
  obtain ⟨a, l, c, rfl⟩ := okWide_slice Try.underlying49 hv
  obtain ⟨fuel, hf⟩ := h
  obtain ⟨sA, sC, s, e, hw⟩ := tc_SlAsk hf
  refine ⟨sA, sC, s, ?_, hw⟩
  simpa [Value.cells] using e
set_option maxRecDepth 100000 in
theorem tc_Slint64 {H : Type} {enc : TypeId × Value → H} {w : World} {base : Nat} {spare : Nat → Bool} {held : Bool} {n : Nat} {cs : List Value} {y : DataW H × List MemPlace} (h : DataW.trod enc Try.prog w base spare held n 30 cs = some y) : ∃ (zA : Option Addr) (zC : Nat) (z : List Int), cs = [.slice zA z.length zC] ∧ SlOk w 1 zA zC (z.map (Value.int .i64)) ∧ z.length ≤ zC ∧ zC ≤ maxLen ∧ ∀ u_ ∈ z, (Lit.int .i64 u_).wf = true := by
  obtain ⟨A, c, xs, hcs, hs, hl, hm, hx⟩ := slice_open (E := Int) (size := 1) (ce := fun x => [.int .i64 x]) (ok := fun x => (Lit.int .i64 x).wf = true) Try.underlying30 (by kernel_rfl) (fun n cs y h => by obtain ⟨z, e, hw⟩ := tc_int64 h; exact ⟨z, e, hw⟩) (fun x => rfl) (by decide) h
  exact ⟨A, c, xs, hcs, by simpa only [flatMap_single] using hs, hl, hm, hx⟩
set_option maxRecDepth 100000 in
theorem tc_Heard23 {H : Type} {enc : TypeId × Value → H} {w : World} {base : Nat} {spare : Nat → Bool} {held : Bool} {n : Nat} {cs : List Value} {y : DataW H × List MemPlace} (h : DataW.trod enc Try.prog w base spare held n 35 cs = some y) : ∃ (voter : Int) (til : Int) (now_lo : Int) (now_hi : Int) (aboveA : Option Addr) (aboveC : Nat) (above : List Int), cs = [.int .i64 voter, .int .i64 til, .int .i64 now_lo, .int .i64 now_hi, .slice aboveA above.length aboveC] ∧ (Lit.int .i64 voter).wf = true ∧ (Lit.int .i64 til).wf = true ∧ (Lit.int .i64 now_lo).wf = true ∧ (Lit.int .i64 now_hi).wf = true ∧ SlOk w 1 aboveA aboveC (above.map (Value.int .i64)) ∧ above.length ≤ aboveC ∧ aboveC ≤ maxLen ∧ ∀ u_ ∈ above, (Lit.int .i64 u_).wf = true := by
  obtain ⟨ys, n', _, _, hl, hy, hf⟩ := DataW.trod_struct Try.underlying35 h
  rw [show Try.prog.cellsOf 35 = 5 from by kernel_rfl] at hl
  match cs, hl with
  | [c0, c1, c2, c3, c4], _ =>
    have g0 := hf 0 _ rfl
    have k0 : Try.prog.cellsOf 3 = 1 := by kernel_rfl
    have e0 : ys[0]? = some (ys[0]'(by rw [hy]; decide)) := List.getElem?_eq_getElem _
    replace g0 : DataW.trod enc Try.prog w base spare held n' 3 [c0] = some (ys[0]'(by rw [hy]; decide)) := by rw [← e0, ← g0]; show _ = DataW.trod _ _ _ _ _ _ _ 3 ((List.drop 0 [c0, c1, c2, c3, c4]).take (Try.prog.cellsOf 3)); rw [k0]; rfl
    obtain ⟨q0, r0, h0_0⟩ := tc_int g0
    simp only [List.cons.injEq, and_true] at r0
    have g1 := hf 1 _ rfl
    have k1 : Try.prog.cellsOf 2 = 1 := by kernel_rfl
    have e1 : ys[1]? = some (ys[1]'(by rw [hy]; decide)) := List.getElem?_eq_getElem _
    replace g1 : DataW.trod enc Try.prog w base spare held n' 2 [c1] = some (ys[1]'(by rw [hy]; decide)) := by rw [← e1, ← g1]; show _ = DataW.trod _ _ _ _ _ _ _ 2 ((List.drop 1 [c0, c1, c2, c3, c4]).take (Try.prog.cellsOf 2)); rw [k1]; rfl
    obtain ⟨q1, r1, h1_0⟩ := tc_int64 g1
    simp only [List.cons.injEq, and_true] at r1
    have g2 := hf 2 _ rfl
    have k2 : Try.prog.cellsOf 33 = 2 := by kernel_rfl
    have e2 : ys[2]? = some (ys[2]'(by rw [hy]; decide)) := List.getElem?_eq_getElem _
    replace g2 : DataW.trod enc Try.prog w base spare held n' 33 [c2, c3] = some (ys[2]'(by rw [hy]; decide)) := by rw [← e2, ← g2]; show _ = DataW.trod _ _ _ _ _ _ _ 33 ((List.drop 2 [c0, c1, c2, c3, c4]).take (Try.prog.cellsOf 33)); rw [k2]; rfl
    obtain ⟨q2_lo, q2_hi, r2, h2_0, h2_1⟩ := tc_Span g2
    simp only [List.cons.injEq, and_true] at r2
    have g3 := hf 3 _ rfl
    have k3 : Try.prog.cellsOf 30 = 1 := by kernel_rfl
    have e3 : ys[3]? = some (ys[3]'(by rw [hy]; decide)) := List.getElem?_eq_getElem _
    replace g3 : DataW.trod enc Try.prog w base spare held n' 30 [c4] = some (ys[3]'(by rw [hy]; decide)) := by rw [← e3, ← g3]; show _ = DataW.trod _ _ _ _ _ _ _ 30 ((List.drop 4 [c0, c1, c2, c3, c4]).take (Try.prog.cellsOf 30)); rw [k3]; rfl
    obtain ⟨q3A, q3C, q3, r3, h3_0, h3_1, h3_2, h3_3⟩ := tc_Slint64 g3
    simp only [List.cons.injEq, and_true] at r3
    exact ⟨q0, q1, q2_lo, q2_hi, q3A, q3C, q3, by simp [r0, r1, r2, r3], h0_0, h1_0, h2_0, h2_1, h3_0, h3_1, h3_2, h3_3⟩
set_option maxRecDepth 100000 in
theorem tc_SlHeard23 {H : Type} {enc : TypeId × Value → H} {w : World} {base : Nat} {spare : Nat → Bool} {held : Bool} {n : Nat} {cs : List Value} {y : DataW H × List MemPlace} (h : DataW.trod enc Try.prog w base spare held n 22 cs = some y) : ∃ (zA : Option Addr) (zC : Nat) (z : List VHeard23), cs = [.slice zA z.length zC] ∧ SlOk w 5 zA zC (z.flatMap VHeard23.cells) ∧ z.length ≤ zC ∧ zC ≤ maxLen ∧ ∀ u_ ∈ z, VHeard23.ok w u_ := by
  obtain ⟨A, c, xs, hcs, hs, hl, hm, hx⟩ := slice_open (E := VHeard23) (size := 5) (ce := fun x => VHeard23.cells x) (ok := fun x => VHeard23.ok w x) Try.underlying22 (by kernel_rfl) (fun n cs y h => by obtain ⟨voter, til, now_lo, now_hi, aboveA, aboveC, above, e, hw⟩ := tc_Heard23 h; exact ⟨⟨voter, til, now_lo, now_hi, aboveA, aboveC, above⟩, e, hw⟩) (fun x => rfl) (by decide) h
  exact ⟨A, c, xs, hcs, hs, hl, hm, hx⟩
set_option maxRecDepth 100000 in
theorem open_heards {H : Type} {enc : TypeId × Value → H} {w : World} {base : Nat} {spare : Nat → Bool} {held : Bool} {r : Reach} {b0 : Nat} {v : Value} {d : DataW H} {p : List MemPlace} (hv : Value.okWide Try.prog w r b0 22 v) (h : DataW.Trod enc Try.prog w base spare held 22 v d p) :
    ∃ (sA : Option Addr) (sC : Nat) (s : List VHeard23), v = .slice sA s.length sC ∧ SlOk w 5 sA sC (s.flatMap VHeard23.cells) ∧ s.length ≤ sC ∧ sC ≤ maxLen ∧ ∀ u_ ∈ s, VHeard23.ok w u_ := by
  obtain ⟨a, l, c, rfl⟩ := okWide_slice Try.underlying22 hv
  obtain ⟨fuel, hf⟩ := h
  obtain ⟨sA, sC, s, e, hw⟩ := tc_SlHeard23 hf
  refine ⟨sA, sC, s, ?_, hw⟩
  simpa [Value.cells] using e
theorem tc_uint16 {H : Type} {enc : TypeId × Value → H} {w : World} {base : Nat} {spare : Nat → Bool} {held : Bool} {n : Nat} {cs : List Value} {y : DataW H × List MemPlace} (h : DataW.trod enc Try.prog w base spare held n 65 cs = some y) : ∃ (z : Int), cs = [.int .u16 z] ∧ (Lit.int .u16 z).wf = true := by
  obtain ⟨z, e, _, hw⟩ := DataW.trod_int Try.underlying65 h
  exact ⟨z, e, hw⟩
theorem tc_int8 {H : Type} {enc : TypeId × Value → H} {w : World} {base : Nat} {spare : Nat → Bool} {held : Bool} {n : Nat} {cs : List Value} {y : DataW H × List MemPlace} (h : DataW.trod enc Try.prog w base spare held n 66 cs = some y) : ∃ (z : Int), cs = [.int .i8 z] ∧ (Lit.int .i8 z).wf = true := by
  obtain ⟨z, e, _, hw⟩ := DataW.trod_int Try.underlying66 h
  exact ⟨z, e, hw⟩
set_option maxRecDepth 100000 in
theorem tc_Sl8int8 {H : Type} {enc : TypeId × Value → H} {w : World} {base : Nat} {spare : Nat → Bool} {held : Bool} {n : Nat} {cs : List Value} {y : DataW H × List MemPlace} (h : DataW.trod enc Try.prog w base spare held n 67 cs = some y) : ∃ (z0 : Int) (z1 : Int) (z2 : Int) (z3 : Int) (z4 : Int) (z5 : Int) (z6 : Int) (z7 : Int), cs = [.int .i8 z0, .int .i8 z1, .int .i8 z2, .int .i8 z3, .int .i8 z4, .int .i8 z5, .int .i8 z6, .int .i8 z7] ∧ (Lit.int .i8 z0).wf = true ∧ (Lit.int .i8 z1).wf = true ∧ (Lit.int .i8 z2).wf = true ∧ (Lit.int .i8 z3).wf = true ∧ (Lit.int .i8 z4).wf = true ∧ (Lit.int .i8 z5).wf = true ∧ (Lit.int .i8 z6).wf = true ∧ (Lit.int .i8 z7).wf = true := by
  obtain ⟨ys, n', _, _, hl, hy, hf⟩ := DataW.trod_array Try.underlying67 h
  rw [show Try.prog.cellsOf 67 = 8 from by kernel_rfl] at hl
  match cs, hl with
  | [c0, c1, c2, c3, c4, c5, c6, c7], _ =>
    have g0 := hf 0 (by omega)
    have k0 : Try.prog.cellsOf 66 = 1 := by kernel_rfl
    have e0 : ys[0]? = some (ys[0]'(by rw [hy]; decide)) := List.getElem?_eq_getElem _
    replace g0 : DataW.trod enc Try.prog w base spare held n' 66 [c0] = some (ys[0]'(by rw [hy]; decide)) := by rw [← e0, ← g0]; rw [k0]; rfl
    obtain ⟨q0, r0, h0_0⟩ := tc_int8 g0
    simp only [List.cons.injEq, and_true] at r0
    have g1 := hf 1 (by omega)
    have k1 : Try.prog.cellsOf 66 = 1 := by kernel_rfl
    have e1 : ys[1]? = some (ys[1]'(by rw [hy]; decide)) := List.getElem?_eq_getElem _
    replace g1 : DataW.trod enc Try.prog w base spare held n' 66 [c1] = some (ys[1]'(by rw [hy]; decide)) := by rw [← e1, ← g1]; rw [k1]; rfl
    obtain ⟨q1, r1, h1_0⟩ := tc_int8 g1
    simp only [List.cons.injEq, and_true] at r1
    have g2 := hf 2 (by omega)
    have k2 : Try.prog.cellsOf 66 = 1 := by kernel_rfl
    have e2 : ys[2]? = some (ys[2]'(by rw [hy]; decide)) := List.getElem?_eq_getElem _
    replace g2 : DataW.trod enc Try.prog w base spare held n' 66 [c2] = some (ys[2]'(by rw [hy]; decide)) := by rw [← e2, ← g2]; rw [k2]; rfl
    obtain ⟨q2, r2, h2_0⟩ := tc_int8 g2
    simp only [List.cons.injEq, and_true] at r2
    have g3 := hf 3 (by omega)
    have k3 : Try.prog.cellsOf 66 = 1 := by kernel_rfl
    have e3 : ys[3]? = some (ys[3]'(by rw [hy]; decide)) := List.getElem?_eq_getElem _
    replace g3 : DataW.trod enc Try.prog w base spare held n' 66 [c3] = some (ys[3]'(by rw [hy]; decide)) := by rw [← e3, ← g3]; rw [k3]; rfl
    obtain ⟨q3, r3, h3_0⟩ := tc_int8 g3
    simp only [List.cons.injEq, and_true] at r3
    have g4 := hf 4 (by omega)
    have k4 : Try.prog.cellsOf 66 = 1 := by kernel_rfl
    have e4 : ys[4]? = some (ys[4]'(by rw [hy]; decide)) := List.getElem?_eq_getElem _
    replace g4 : DataW.trod enc Try.prog w base spare held n' 66 [c4] = some (ys[4]'(by rw [hy]; decide)) := by rw [← e4, ← g4]; rw [k4]; rfl
    obtain ⟨q4, r4, h4_0⟩ := tc_int8 g4
    simp only [List.cons.injEq, and_true] at r4
    have g5 := hf 5 (by omega)
    have k5 : Try.prog.cellsOf 66 = 1 := by kernel_rfl
    have e5 : ys[5]? = some (ys[5]'(by rw [hy]; decide)) := List.getElem?_eq_getElem _
    replace g5 : DataW.trod enc Try.prog w base spare held n' 66 [c5] = some (ys[5]'(by rw [hy]; decide)) := by rw [← e5, ← g5]; rw [k5]; rfl
    obtain ⟨q5, r5, h5_0⟩ := tc_int8 g5
    simp only [List.cons.injEq, and_true] at r5
    have g6 := hf 6 (by omega)
    have k6 : Try.prog.cellsOf 66 = 1 := by kernel_rfl
    have e6 : ys[6]? = some (ys[6]'(by rw [hy]; decide)) := List.getElem?_eq_getElem _
    replace g6 : DataW.trod enc Try.prog w base spare held n' 66 [c6] = some (ys[6]'(by rw [hy]; decide)) := by rw [← e6, ← g6]; rw [k6]; rfl
    obtain ⟨q6, r6, h6_0⟩ := tc_int8 g6
    simp only [List.cons.injEq, and_true] at r6
    have g7 := hf 7 (by omega)
    have k7 : Try.prog.cellsOf 66 = 1 := by kernel_rfl
    have e7 : ys[7]? = some (ys[7]'(by rw [hy]; decide)) := List.getElem?_eq_getElem _
    replace g7 : DataW.trod enc Try.prog w base spare held n' 66 [c7] = some (ys[7]'(by rw [hy]; decide)) := by rw [← e7, ← g7]; rw [k7]; rfl
    obtain ⟨q7, r7, h7_0⟩ := tc_int8 g7
    simp only [List.cons.injEq, and_true] at r7
    exact ⟨q0, q1, q2, q3, q4, q5, q6, q7, by simp [r0, r1, r2, r3, r4, r5, r6, r7], h0_0, h1_0, h2_0, h3_0, h4_0, h5_0, h6_0, h7_0⟩
theorem tc_uint8 {H : Type} {enc : TypeId × Value → H} {w : World} {base : Nat} {spare : Nat → Bool} {held : Bool} {n : Nat} {cs : List Value} {y : DataW H × List MemPlace} (h : DataW.trod enc Try.prog w base spare held n 5 cs = some y) : ∃ (z : Int), cs = [.int .u8 z] ∧ (Lit.int .u8 z).wf = true := by
  obtain ⟨z, e, _, hw⟩ := DataW.trod_int Try.underlying5 h
  exact ⟨z, e, hw⟩
set_option maxRecDepth 100000 in
theorem tc_Turn23 {H : Type} {enc : TypeId × Value → H} {w : World} {base : Nat} {spare : Nat → Bool} {held : Bool} {n : Nat} {cs : List Value} {y : DataW H × List MemPlace} (h : DataW.trod enc Try.prog w base spare held n 69 cs = some y) : ∃ (dd : Int) (ln : Int) (sk0 : Int) (sk1 : Int) (sk2 : Int) (sk3 : Int) (sk4 : Int) (sk5 : Int) (sk6 : Int) (sk7 : Int) (leader : Int) (voter : Int) (heard : Bool) (again : Bool) (give : Bool), cs = [.int .u16 dd, .int .u16 ln, .int .i8 sk0, .int .i8 sk1, .int .i8 sk2, .int .i8 sk3, .int .i8 sk4, .int .i8 sk5, .int .i8 sk6, .int .i8 sk7, .int .u8 leader, .int .u8 voter, .bool heard, .bool again, .bool give] ∧ (Lit.int .u16 dd).wf = true ∧ (Lit.int .u16 ln).wf = true ∧ (Lit.int .i8 sk0).wf = true ∧ (Lit.int .i8 sk1).wf = true ∧ (Lit.int .i8 sk2).wf = true ∧ (Lit.int .i8 sk3).wf = true ∧ (Lit.int .i8 sk4).wf = true ∧ (Lit.int .i8 sk5).wf = true ∧ (Lit.int .i8 sk6).wf = true ∧ (Lit.int .i8 sk7).wf = true ∧ (Lit.int .u8 leader).wf = true ∧ (Lit.int .u8 voter).wf = true := by
  obtain ⟨ys, n', _, _, hl, hy, hf⟩ := DataW.trod_struct Try.underlying69 h
  rw [show Try.prog.cellsOf 69 = 15 from by kernel_rfl] at hl
  match cs, hl with
  | [c0, c1, c2, c3, c4, c5, c6, c7, c8, c9, c10, c11, c12, c13, c14], _ =>
    have g0 := hf 0 _ rfl
    have k0 : Try.prog.cellsOf 65 = 1 := by kernel_rfl
    have e0 : ys[0]? = some (ys[0]'(by rw [hy]; decide)) := List.getElem?_eq_getElem _
    replace g0 : DataW.trod enc Try.prog w base spare held n' 65 [c0] = some (ys[0]'(by rw [hy]; decide)) := by rw [← e0, ← g0]; show _ = DataW.trod _ _ _ _ _ _ _ 65 ((List.drop 0 [c0, c1, c2, c3, c4, c5, c6, c7, c8, c9, c10, c11, c12, c13, c14]).take (Try.prog.cellsOf 65)); rw [k0]; rfl
    obtain ⟨q0, r0, h0_0⟩ := tc_uint16 g0
    simp only [List.cons.injEq, and_true] at r0
    have g1 := hf 1 _ rfl
    have k1 : Try.prog.cellsOf 65 = 1 := by kernel_rfl
    have e1 : ys[1]? = some (ys[1]'(by rw [hy]; decide)) := List.getElem?_eq_getElem _
    replace g1 : DataW.trod enc Try.prog w base spare held n' 65 [c1] = some (ys[1]'(by rw [hy]; decide)) := by rw [← e1, ← g1]; show _ = DataW.trod _ _ _ _ _ _ _ 65 ((List.drop 1 [c0, c1, c2, c3, c4, c5, c6, c7, c8, c9, c10, c11, c12, c13, c14]).take (Try.prog.cellsOf 65)); rw [k1]; rfl
    obtain ⟨q1, r1, h1_0⟩ := tc_uint16 g1
    simp only [List.cons.injEq, and_true] at r1
    have g2 := hf 2 _ rfl
    have k2 : Try.prog.cellsOf 67 = 8 := by kernel_rfl
    have e2 : ys[2]? = some (ys[2]'(by rw [hy]; decide)) := List.getElem?_eq_getElem _
    replace g2 : DataW.trod enc Try.prog w base spare held n' 67 [c2, c3, c4, c5, c6, c7, c8, c9] = some (ys[2]'(by rw [hy]; decide)) := by rw [← e2, ← g2]; show _ = DataW.trod _ _ _ _ _ _ _ 67 ((List.drop 2 [c0, c1, c2, c3, c4, c5, c6, c7, c8, c9, c10, c11, c12, c13, c14]).take (Try.prog.cellsOf 67)); rw [k2]; rfl
    obtain ⟨q20, q21, q22, q23, q24, q25, q26, q27, r2, h2_0, h2_1, h2_2, h2_3, h2_4, h2_5, h2_6, h2_7⟩ := tc_Sl8int8 g2
    simp only [List.cons.injEq, and_true] at r2
    have g3 := hf 3 _ rfl
    have k3 : Try.prog.cellsOf 5 = 1 := by kernel_rfl
    have e3 : ys[3]? = some (ys[3]'(by rw [hy]; decide)) := List.getElem?_eq_getElem _
    replace g3 : DataW.trod enc Try.prog w base spare held n' 5 [c10] = some (ys[3]'(by rw [hy]; decide)) := by rw [← e3, ← g3]; show _ = DataW.trod _ _ _ _ _ _ _ 5 ((List.drop 10 [c0, c1, c2, c3, c4, c5, c6, c7, c8, c9, c10, c11, c12, c13, c14]).take (Try.prog.cellsOf 5)); rw [k3]; rfl
    obtain ⟨q3, r3, h3_0⟩ := tc_uint8 g3
    simp only [List.cons.injEq, and_true] at r3
    have g4 := hf 4 _ rfl
    have k4 : Try.prog.cellsOf 5 = 1 := by kernel_rfl
    have e4 : ys[4]? = some (ys[4]'(by rw [hy]; decide)) := List.getElem?_eq_getElem _
    replace g4 : DataW.trod enc Try.prog w base spare held n' 5 [c11] = some (ys[4]'(by rw [hy]; decide)) := by rw [← e4, ← g4]; show _ = DataW.trod _ _ _ _ _ _ _ 5 ((List.drop 11 [c0, c1, c2, c3, c4, c5, c6, c7, c8, c9, c10, c11, c12, c13, c14]).take (Try.prog.cellsOf 5)); rw [k4]; rfl
    obtain ⟨q4, r4, h4_0⟩ := tc_uint8 g4
    simp only [List.cons.injEq, and_true] at r4
    have g5 := hf 5 _ rfl
    have k5 : Try.prog.cellsOf 4 = 1 := by kernel_rfl
    have e5 : ys[5]? = some (ys[5]'(by rw [hy]; decide)) := List.getElem?_eq_getElem _
    replace g5 : DataW.trod enc Try.prog w base spare held n' 4 [c12] = some (ys[5]'(by rw [hy]; decide)) := by rw [← e5, ← g5]; show _ = DataW.trod _ _ _ _ _ _ _ 4 ((List.drop 12 [c0, c1, c2, c3, c4, c5, c6, c7, c8, c9, c10, c11, c12, c13, c14]).take (Try.prog.cellsOf 4)); rw [k5]; rfl
    obtain ⟨q5, r5⟩ := tc_bool g5
    simp only [List.cons.injEq, and_true] at r5
    have g6 := hf 6 _ rfl
    have k6 : Try.prog.cellsOf 4 = 1 := by kernel_rfl
    have e6 : ys[6]? = some (ys[6]'(by rw [hy]; decide)) := List.getElem?_eq_getElem _
    replace g6 : DataW.trod enc Try.prog w base spare held n' 4 [c13] = some (ys[6]'(by rw [hy]; decide)) := by rw [← e6, ← g6]; show _ = DataW.trod _ _ _ _ _ _ _ 4 ((List.drop 13 [c0, c1, c2, c3, c4, c5, c6, c7, c8, c9, c10, c11, c12, c13, c14]).take (Try.prog.cellsOf 4)); rw [k6]; rfl
    obtain ⟨q6, r6⟩ := tc_bool g6
    simp only [List.cons.injEq, and_true] at r6
    have g7 := hf 7 _ rfl
    have k7 : Try.prog.cellsOf 4 = 1 := by kernel_rfl
    have e7 : ys[7]? = some (ys[7]'(by rw [hy]; decide)) := List.getElem?_eq_getElem _
    replace g7 : DataW.trod enc Try.prog w base spare held n' 4 [c14] = some (ys[7]'(by rw [hy]; decide)) := by rw [← e7, ← g7]; show _ = DataW.trod _ _ _ _ _ _ _ 4 ((List.drop 14 [c0, c1, c2, c3, c4, c5, c6, c7, c8, c9, c10, c11, c12, c13, c14]).take (Try.prog.cellsOf 4)); rw [k7]; rfl
    obtain ⟨q7, r7⟩ := tc_bool g7
    simp only [List.cons.injEq, and_true] at r7
    exact ⟨q0, q1, q20, q21, q22, q23, q24, q25, q26, q27, q3, q4, q5, q6, q7, by simp [r0, r1, r2, r3, r4, r5, r6, r7], h0_0, h1_0, h2_0, h2_1, h2_2, h2_3, h2_4, h2_5, h2_6, h2_7, h3_0, h4_0⟩
set_option maxRecDepth 100000 in
theorem tc_SlTurn23 {H : Type} {enc : TypeId × Value → H} {w : World} {base : Nat} {spare : Nat → Bool} {held : Bool} {n : Nat} {cs : List Value} {y : DataW H × List MemPlace} (h : DataW.trod enc Try.prog w base spare held n 64 cs = some y) : ∃ (zA : Option Addr) (zC : Nat) (z : List VTurn23), cs = [.slice zA z.length zC] ∧ SlOk w 15 zA zC (z.flatMap VTurn23.cells) ∧ z.length ≤ zC ∧ zC ≤ maxLen ∧ ∀ u_ ∈ z, VTurn23.ok w u_ := by
  obtain ⟨A, c, xs, hcs, hs, hl, hm, hx⟩ := slice_open (E := VTurn23) (size := 15) (ce := fun x => VTurn23.cells x) (ok := fun x => VTurn23.ok w x) Try.underlying64 (by kernel_rfl) (fun n cs y h => by obtain ⟨dd, ln, sk0, sk1, sk2, sk3, sk4, sk5, sk6, sk7, leader, voter, heard, again, give, e, hw⟩ := tc_Turn23 h; exact ⟨⟨dd, ln, sk0, sk1, sk2, sk3, sk4, sk5, sk6, sk7, leader, voter, heard, again, give⟩, e, hw⟩) (fun x => rfl) (by decide) h
  exact ⟨A, c, xs, hcs, hs, hl, hm, hx⟩
set_option maxRecDepth 100000 in
theorem open_turns23 {H : Type} {enc : TypeId × Value → H} {w : World} {base : Nat} {spare : Nat → Bool} {held : Bool} {r : Reach} {b0 : Nat} {v : Value} {d : DataW H} {p : List MemPlace} (hv : Value.okWide Try.prog w r b0 64 v) (h : DataW.Trod enc Try.prog w base spare held 64 v d p) :
    ∃ (sA : Option Addr) (sC : Nat) (s : List VTurn23), v = .slice sA s.length sC ∧ SlOk w 15 sA sC (s.flatMap VTurn23.cells) ∧ s.length ≤ sC ∧ sC ≤ maxLen ∧ ∀ u_ ∈ s, VTurn23.ok w u_ := by
  obtain ⟨a, l, c, rfl⟩ := okWide_slice Try.underlying64 hv
  obtain ⟨fuel, hf⟩ := h
  obtain ⟨sA, sC, s, e, hw⟩ := tc_SlTurn23 hf
  refine ⟨sA, sC, s, ?_, hw⟩
  simpa [Value.cells] using e
set_option maxRecDepth 100000 in
theorem tc_Sl5int64 {H : Type} {enc : TypeId × Value → H} {w : World} {base : Nat} {spare : Nat → Bool} {held : Bool} {n : Nat} {cs : List Value} {y : DataW H × List MemPlace} (h : DataW.trod enc Try.prog w base spare held n 47 cs = some y) : ∃ (z0 : Int) (z1 : Int) (z2 : Int) (z3 : Int) (z4 : Int), cs = [.int .i64 z0, .int .i64 z1, .int .i64 z2, .int .i64 z3, .int .i64 z4] ∧ (Lit.int .i64 z0).wf = true ∧ (Lit.int .i64 z1).wf = true ∧ (Lit.int .i64 z2).wf = true ∧ (Lit.int .i64 z3).wf = true ∧ (Lit.int .i64 z4).wf = true := by
  obtain ⟨ys, n', _, _, hl, hy, hf⟩ := DataW.trod_array Try.underlying47 h
  rw [show Try.prog.cellsOf 47 = 5 from by kernel_rfl] at hl
  match cs, hl with
  | [c0, c1, c2, c3, c4], _ =>
    have g0 := hf 0 (by omega)
    have k0 : Try.prog.cellsOf 2 = 1 := by kernel_rfl
    have e0 : ys[0]? = some (ys[0]'(by rw [hy]; decide)) := List.getElem?_eq_getElem _
    replace g0 : DataW.trod enc Try.prog w base spare held n' 2 [c0] = some (ys[0]'(by rw [hy]; decide)) := by rw [← e0, ← g0]; rw [k0]; rfl
    obtain ⟨q0, r0, h0_0⟩ := tc_int64 g0
    simp only [List.cons.injEq, and_true] at r0
    have g1 := hf 1 (by omega)
    have k1 : Try.prog.cellsOf 2 = 1 := by kernel_rfl
    have e1 : ys[1]? = some (ys[1]'(by rw [hy]; decide)) := List.getElem?_eq_getElem _
    replace g1 : DataW.trod enc Try.prog w base spare held n' 2 [c1] = some (ys[1]'(by rw [hy]; decide)) := by rw [← e1, ← g1]; rw [k1]; rfl
    obtain ⟨q1, r1, h1_0⟩ := tc_int64 g1
    simp only [List.cons.injEq, and_true] at r1
    have g2 := hf 2 (by omega)
    have k2 : Try.prog.cellsOf 2 = 1 := by kernel_rfl
    have e2 : ys[2]? = some (ys[2]'(by rw [hy]; decide)) := List.getElem?_eq_getElem _
    replace g2 : DataW.trod enc Try.prog w base spare held n' 2 [c2] = some (ys[2]'(by rw [hy]; decide)) := by rw [← e2, ← g2]; rw [k2]; rfl
    obtain ⟨q2, r2, h2_0⟩ := tc_int64 g2
    simp only [List.cons.injEq, and_true] at r2
    have g3 := hf 3 (by omega)
    have k3 : Try.prog.cellsOf 2 = 1 := by kernel_rfl
    have e3 : ys[3]? = some (ys[3]'(by rw [hy]; decide)) := List.getElem?_eq_getElem _
    replace g3 : DataW.trod enc Try.prog w base spare held n' 2 [c3] = some (ys[3]'(by rw [hy]; decide)) := by rw [← e3, ← g3]; rw [k3]; rfl
    obtain ⟨q3, r3, h3_0⟩ := tc_int64 g3
    simp only [List.cons.injEq, and_true] at r3
    have g4 := hf 4 (by omega)
    have k4 : Try.prog.cellsOf 2 = 1 := by kernel_rfl
    have e4 : ys[4]? = some (ys[4]'(by rw [hy]; decide)) := List.getElem?_eq_getElem _
    replace g4 : DataW.trod enc Try.prog w base spare held n' 2 [c4] = some (ys[4]'(by rw [hy]; decide)) := by rw [← e4, ← g4]; rw [k4]; rfl
    obtain ⟨q4, r4, h4_0⟩ := tc_int64 g4
    simp only [List.cons.injEq, and_true] at r4
    exact ⟨q0, q1, q2, q3, q4, by simp [r0, r1, r2, r3, r4], h0_0, h1_0, h2_0, h3_0, h4_0⟩
theorem okWide_array {P : Program} {w : World} {r : Reach} {b0 : Nat} {t e : TypeId} {n : Nat} {v : Value} (ht : P.underlying t = some (.array e n)) (h : Value.okWide P w r b0 t v) : ∃ cs, v = .agg cs ∧ True := by
  simp only [Value.okWide, ht] at h
  obtain ⟨cs, h1, _⟩ := h
  exact ⟨cs, h1, trivial⟩
set_option maxRecDepth 100000 in
theorem open_five {H : Type} {enc : TypeId × Value → H} {w : World} {base : Nat} {spare : Nat → Bool} {held : Bool} {r : Reach} {b0 : Nat} {v : Value} {d : DataW H} {p : List MemPlace} (hv : Value.okWide Try.prog w r b0 47 v) (h : DataW.Trod enc Try.prog w base spare held 47 v d p) :
    ∃ (s0 : Int) (s1 : Int) (s2 : Int) (s3 : Int) (s4 : Int), v = .agg #[.int .i64 s0, .int .i64 s1, .int .i64 s2, .int .i64 s3, .int .i64 s4] ∧ (Lit.int .i64 s0).wf = true ∧ (Lit.int .i64 s1).wf = true ∧ (Lit.int .i64 s2).wf = true ∧ (Lit.int .i64 s3).wf = true ∧ (Lit.int .i64 s4).wf = true := by
  obtain ⟨cs, rfl, _⟩ := okWide_array Try.underlying47 hv
  obtain ⟨fuel, hf⟩ := h
  obtain ⟨s0, s1, s2, s3, s4, e, hw⟩ := tc_Sl5int64 hf
  refine ⟨s0, s1, s2, s3, s4, ?_, hw⟩
  obtain ⟨l⟩ := cs
  simp only [Value.cells] at e
  rw [show l = _ from e]
end Go.Proofs.Ytajojpfenlafbaa
