/- Arguments laid open (printed by a program of ours). -/
import Derived.Test.YtkfpopilkagedaaOpenA
import Derived.Test.YtkfpopilkagedaaStampI
set_option linter.unusedSimpArgs false
set_option linter.unusedVariables false
namespace Go.Proofs.Ytkfpopilkagedaa
open Go.ChangeShapes Go.WideShapes Go.ChangeAt Go.RowKit Go.Joins
/-- a moietylaw14.Op -/
structure VOp14 where
  kd : Int
  fr : Int
  too : Int
  am : Int
def VOp14.cells (x : VOp14) : List Value := [.int .i64 x.kd, .int .i64 x.fr, .int .i64 x.too, .int .i64 x.am]
def VOp14.ok (w : World) (x : VOp14) : Prop := (Lit.int .i64 x.kd).wf = true ∧ (Lit.int .i64 x.fr).wf = true ∧ (Lit.int .i64 x.too).wf = true ∧ (Lit.int .i64 x.am).wf = true
theorem tc_int {H : Type} {enc : TypeId × Value → H} {w : World} {base : Nat} {spare : Nat → Bool} {held : Bool} {n : Nat} {cs : List Value} {y : DataW H × List MemPlace} (h : DataW.trod enc Try.prog w base spare held n 3 cs = some y) : ∃ (z : Int), cs = [.int .i64 z] ∧ (Lit.int .i64 z).wf = true := by
  obtain ⟨z, e, _, hw⟩ := DataW.trod_int Try.underlying3 h
  exact ⟨z, e, hw⟩
theorem tc_int64 {H : Type} {enc : TypeId × Value → H} {w : World} {base : Nat} {spare : Nat → Bool} {held : Bool} {n : Nat} {cs : List Value} {y : DataW H × List MemPlace} (h : DataW.trod enc Try.prog w base spare held n 2 cs = some y) : ∃ (z : Int), cs = [.int .i64 z] ∧ (Lit.int .i64 z).wf = true := by
  obtain ⟨z, e, _, hw⟩ := DataW.trod_int Try.underlying2 h
  exact ⟨z, e, hw⟩
set_option maxRecDepth 100000 in
theorem tc_Op14 {H : Type} {enc : TypeId × Value → H} {w : World} {base : Nat} {spare : Nat → Bool} {held : Bool} {n : Nat} {cs : List Value} {y : DataW H × List MemPlace} (h : DataW.trod enc Try.prog w base spare held n 44 cs = some y) : ∃ (kd : Int) (fr : Int) (too : Int) (am : Int), cs = [.int .i64 kd, .int .i64 fr, .int .i64 too, .int .i64 am] ∧ (Lit.int .i64 kd).wf = true ∧ (Lit.int .i64 fr).wf = true ∧ (Lit.int .i64 too).wf = true ∧ (Lit.int .i64 am).wf = true := by
  obtain ⟨ys, n', _, _, hl, hy, hf⟩ := DataW.trod_struct Try.underlying44 h
  rw [show Try.prog.cellsOf 44 = 4 from by kernel_rfl] at hl
  match cs, hl with
  | [c0, c1, c2, c3], _ =>
    have g0 := hf 0 _ rfl
    have k0 : Try.prog.cellsOf 3 = 1 := by kernel_rfl
    have e0 : ys[0]? = some (ys[0]'(by rw [hy]; decide)) := List.getElem?_eq_getElem _
    replace g0 : DataW.trod enc Try.prog w base spare held n' 3 [c0] = some (ys[0]'(by rw [hy]; decide)) := by rw [← e0, ← g0]; show _ = DataW.trod _ _ _ _ _ _ _ 3 ((List.drop 0 [c0, c1, c2, c3]).take (Try.prog.cellsOf 3)); rw [k0]; rfl
    obtain ⟨q0, r0, h0_0⟩ := tc_int g0
    simp only [List.cons.injEq, and_true] at r0
    have g1 := hf 1 _ rfl
    have k1 : Try.prog.cellsOf 3 = 1 := by kernel_rfl
    have e1 : ys[1]? = some (ys[1]'(by rw [hy]; decide)) := List.getElem?_eq_getElem _
    replace g1 : DataW.trod enc Try.prog w base spare held n' 3 [c1] = some (ys[1]'(by rw [hy]; decide)) := by rw [← e1, ← g1]; show _ = DataW.trod _ _ _ _ _ _ _ 3 ((List.drop 1 [c0, c1, c2, c3]).take (Try.prog.cellsOf 3)); rw [k1]; rfl
    obtain ⟨q1, r1, h1_0⟩ := tc_int g1
    simp only [List.cons.injEq, and_true] at r1
    have g2 := hf 2 _ rfl
    have k2 : Try.prog.cellsOf 3 = 1 := by kernel_rfl
    have e2 : ys[2]? = some (ys[2]'(by rw [hy]; decide)) := List.getElem?_eq_getElem _
    replace g2 : DataW.trod enc Try.prog w base spare held n' 3 [c2] = some (ys[2]'(by rw [hy]; decide)) := by rw [← e2, ← g2]; show _ = DataW.trod _ _ _ _ _ _ _ 3 ((List.drop 2 [c0, c1, c2, c3]).take (Try.prog.cellsOf 3)); rw [k2]; rfl
    obtain ⟨q2, r2, h2_0⟩ := tc_int g2
    simp only [List.cons.injEq, and_true] at r2
    have g3 := hf 3 _ rfl
    have k3 : Try.prog.cellsOf 2 = 1 := by kernel_rfl
    have e3 : ys[3]? = some (ys[3]'(by rw [hy]; decide)) := List.getElem?_eq_getElem _
    replace g3 : DataW.trod enc Try.prog w base spare held n' 2 [c3] = some (ys[3]'(by rw [hy]; decide)) := by rw [← e3, ← g3]; show _ = DataW.trod _ _ _ _ _ _ _ 2 ((List.drop 3 [c0, c1, c2, c3]).take (Try.prog.cellsOf 2)); rw [k3]; rfl
    obtain ⟨q3, r3, h3_0⟩ := tc_int64 g3
    simp only [List.cons.injEq, and_true] at r3
    exact ⟨q0, q1, q2, q3, by simp [r0, r1, r2, r3], h0_0, h1_0, h2_0, h3_0⟩
set_option maxRecDepth 100000 in
theorem tc_SlOp14 {H : Type} {enc : TypeId × Value → H} {w : World} {base : Nat} {spare : Nat → Bool} {held : Bool} {n : Nat} {cs : List Value} {y : DataW H × List MemPlace} (h : DataW.trod enc Try.prog w base spare held n 23 cs = some y) : ∃ (zA : Option Addr) (zC : Nat) (z : List VOp14), cs = [.slice zA z.length zC] ∧ SlOk w 4 zA zC (z.flatMap VOp14.cells) ∧ z.length ≤ zC ∧ zC ≤ maxLen ∧ ∀ u_ ∈ z, VOp14.ok w u_ := by
  obtain ⟨A, c, xs, hcs, hs, hl, hm, hx⟩ := slice_open (E := VOp14) (size := 4) (ce := fun x => VOp14.cells x) (ok := fun x => VOp14.ok w x) Try.underlying23 (by kernel_rfl) (fun n cs y h => by obtain ⟨kd, fr, too, am, e, hw⟩ := tc_Op14 h; exact ⟨⟨kd, fr, too, am⟩, e, hw⟩) (fun x => rfl) (by decide) h
  exact ⟨A, c, xs, hcs, hs, hl, hm, hx⟩
set_option maxRecDepth 100000 in
theorem open_ops {H : Type} {enc : TypeId × Value → H} {w : World} {base : Nat} {spare : Nat → Bool} {held : Bool} {r : Reach} {b0 : Nat} {v : Value} {d : DataW H} {p : List MemPlace} (hv : Value.okWide Try.prog w r b0 23 v) (h : DataW.Trod enc Try.prog w base spare held 23 v d p) :
    ∃ (sA : Option Addr) (sC : Nat) (s : List VOp14), v = .slice sA s.length sC ∧ SlOk w 4 sA sC (s.flatMap VOp14.cells) ∧ s.length ≤ sC ∧ sC ≤ maxLen ∧ ∀ u_ ∈ s, VOp14.ok w u_ := by
  obtain ⟨a, l, c, rfl⟩ := okWide_slice Try.underlying23 hv
  obtain ⟨fuel, hf⟩ := h
  obtain ⟨sA, sC, s, e, hw⟩ := tc_SlOp14 hf
  refine ⟨sA, sC, s, ?_, hw⟩
  simpa [Value.cells] using e
set_option maxRecDepth 100000 in
theorem open_op {H : Type} {enc : TypeId × Value → H} {w : World} {base : Nat} {spare : Nat → Bool} {held : Bool} {r : Reach} {b0 : Nat} {v : Value} {d : DataW H} {p : List MemPlace} (hv : Value.okWide Try.prog w r b0 44 v) (h : DataW.Trod enc Try.prog w base spare held 44 v d p) :
    ∃ (kd : Int) (fr : Int) (too : Int) (am : Int), v = .agg #[.int .i64 kd, .int .i64 fr, .int .i64 too, .int .i64 am] ∧ (Lit.int .i64 kd).wf = true ∧ (Lit.int .i64 fr).wf = true ∧ (Lit.int .i64 too).wf = true ∧ (Lit.int .i64 am).wf = true := by
  obtain ⟨cs, rfl, _⟩ := okWide_struct Try.underlying44 hv
  obtain ⟨fuel, hf⟩ := h
  obtain ⟨kd, fr, too, am, e, hw⟩ := tc_Op14 hf
  refine ⟨kd, fr, too, am, ?_, hw⟩
  obtain ⟨l⟩ := cs
  simp only [Value.cells] at e
  rw [show l = _ from e]
set_option maxRecDepth 100000 in
theorem tc_Sl2Op14 {H : Type} {enc : TypeId × Value → H} {w : World} {base : Nat} {spare : Nat → Bool} {held : Bool} {n : Nat} {cs : List Value} {y : DataW H × List MemPlace} (h : DataW.trod enc Try.prog w base spare held n 50 cs = some y) : ∃ (z0_kd : Int) (z0_fr : Int) (z0_too : Int) (z0_am : Int) (z1_kd : Int) (z1_fr : Int) (z1_too : Int) (z1_am : Int), cs = [.int .i64 z0_kd, .int .i64 z0_fr, .int .i64 z0_too, .int .i64 z0_am, .int .i64 z1_kd, .int .i64 z1_fr, .int .i64 z1_too, .int .i64 z1_am] ∧ (Lit.int .i64 z0_kd).wf = true ∧ (Lit.int .i64 z0_fr).wf = true ∧ (Lit.int .i64 z0_too).wf = true ∧ (Lit.int .i64 z0_am).wf = true ∧ (Lit.int .i64 z1_kd).wf = true ∧ (Lit.int .i64 z1_fr).wf = true ∧ (Lit.int .i64 z1_too).wf = true ∧ (Lit.int .i64 z1_am).wf = true := by
  obtain ⟨ys, n', _, _, hl, hy, hf⟩ := DataW.trod_array Try.underlying50 h
  rw [show Try.prog.cellsOf 50 = 8 from by kernel_rfl] at hl
  match cs, hl with
  | [c0, c1, c2, c3, c4, c5, c6, c7], _ =>
    have g0 := hf 0 (by omega)
    have k0 : Try.prog.cellsOf 44 = 4 := by kernel_rfl
    have e0 : ys[0]? = some (ys[0]'(by rw [hy]; decide)) := List.getElem?_eq_getElem _
    replace g0 : DataW.trod enc Try.prog w base spare held n' 44 [c0, c1, c2, c3] = some (ys[0]'(by rw [hy]; decide)) := by rw [← e0, ← g0]; rw [k0]; rfl
    obtain ⟨q0_kd, q0_fr, q0_too, q0_am, r0, h0_0, h0_1, h0_2, h0_3⟩ := tc_Op14 g0
    simp only [List.cons.injEq, and_true] at r0
    have g1 := hf 1 (by omega)
    have k1 : Try.prog.cellsOf 44 = 4 := by kernel_rfl
    have e1 : ys[1]? = some (ys[1]'(by rw [hy]; decide)) := List.getElem?_eq_getElem _
    replace g1 : DataW.trod enc Try.prog w base spare held n' 44 [c4, c5, c6, c7] = some (ys[1]'(by rw [hy]; decide)) := by rw [← e1, ← g1]; rw [k1]; rfl
    obtain ⟨q1_kd, q1_fr, q1_too, q1_am, r1, h1_0, h1_1, h1_2, h1_3⟩ := tc_Op14 g1
    simp only [List.cons.injEq, and_true] at r1
    exact ⟨q0_kd, q0_fr, q0_too, q0_am, q1_kd, q1_fr, q1_too, q1_am, by simp [r0, r1], h0_0, h0_1, h0_2, h0_3, h1_0, h1_1, h1_2, h1_3⟩
theorem okWide_array {P : Program} {w : World} {r : Reach} {b0 : Nat} {t e : TypeId} {n : Nat} {v : Value} (ht : P.underlying t = some (.array e n)) (h : Value.okWide P w r b0 t v) : ∃ cs, v = .agg cs ∧ True := by
  simp only [Value.okWide, ht] at h
  obtain ⟨cs, h1, _⟩ := h
  exact ⟨cs, h1, trivial⟩
set_option maxRecDepth 100000 in
theorem open_two {H : Type} {enc : TypeId × Value → H} {w : World} {base : Nat} {spare : Nat → Bool} {held : Bool} {r : Reach} {b0 : Nat} {v : Value} {d : DataW H} {p : List MemPlace} (hv : Value.okWide Try.prog w r b0 50 v) (h : DataW.Trod enc Try.prog w base spare held 50 v d p) :
    ∃ (s0_kd : Int) (s0_fr : Int) (s0_too : Int) (s0_am : Int) (s1_kd : Int) (s1_fr : Int) (s1_too : Int) (s1_am : Int), v = .agg #[.int .i64 s0_kd, .int .i64 s0_fr, .int .i64 s0_too, .int .i64 s0_am, .int .i64 s1_kd, .int .i64 s1_fr, .int .i64 s1_too, .int .i64 s1_am] ∧ (Lit.int .i64 s0_kd).wf = true ∧ (Lit.int .i64 s0_fr).wf = true ∧ (Lit.int .i64 s0_too).wf = true ∧ (Lit.int .i64 s0_am).wf = true ∧ (Lit.int .i64 s1_kd).wf = true ∧ (Lit.int .i64 s1_fr).wf = true ∧ (Lit.int .i64 s1_too).wf = true ∧ (Lit.int .i64 s1_am).wf = true := by
  obtain ⟨cs, rfl, _⟩ := okWide_array Try.underlying50 hv
  obtain ⟨fuel, hf⟩ := h
  obtain ⟨s0_kd, s0_fr, s0_too, s0_am, s1_kd, s1_fr, s1_too, s1_am, e, hw⟩ := tc_Sl2Op14 hf
  refine ⟨s0_kd, s0_fr, s0_too, s0_am, s1_kd, s1_fr, s1_too, s1_am, ?_, hw⟩
  obtain ⟨l⟩ := cs
  simp only [Value.cells] at e
  rw [show l = _ from e]
end Go.Proofs.Ytkfpopilkagedaa
