/- Arguments laid open (printed by a program of ours). -/
import Derived.Test.YtefcofkodhichaaOpenA
set_option linter.unusedSimpArgs false
set_option linter.unusedVariables false
namespace Go.Proofs.Ytefcofkodhichaa
open Go.ChangeShapes Go.WideShapes Go.ChangeAt Go.RowKit Go.Joins
/-- a moietylaw04.Charge -/
structure VCharge where
  n : Int
  rate : Nat
def VCharge.cells (x : VCharge) : List Value := [.int .i64 x.n, .float .f64 x.rate]
def VCharge.ok (w : World) (x : VCharge) : Prop := (Lit.int .i64 x.n).wf = true ∧ (Lit.float .f64 x.rate).wf = true
theorem tc_int64 {H : Type} {enc : TypeId × Value → H} {w : World} {base : Nat} {spare : Nat → Bool} {held : Bool} {n : Nat} {cs : List Value} {y : DataW H × List MemPlace} (h : DataW.trod enc Try.prog w base spare held n 2 cs = some y) : ∃ (z : Int), cs = [.int .i64 z] ∧ (Lit.int .i64 z).wf = true := by
  obtain ⟨z, e, _, hw⟩ := DataW.trod_int Try.underlying2 h
  exact ⟨z, e, hw⟩
set_option maxRecDepth 100000 in
theorem tc_Slint64 {H : Type} {enc : TypeId × Value → H} {w : World} {base : Nat} {spare : Nat → Bool} {held : Bool} {n : Nat} {cs : List Value} {y : DataW H × List MemPlace} (h : DataW.trod enc Try.prog w base spare held n 27 cs = some y) : ∃ (zA : Option Addr) (zC : Nat) (z : List Int), cs = [.slice zA z.length zC] ∧ SlOk w 1 zA zC (z.map (Value.int .i64)) ∧ z.length ≤ zC ∧ zC ≤ maxLen ∧ ∀ u_ ∈ z, (Lit.int .i64 u_).wf = true := by
  obtain ⟨A, c, xs, hcs, hs, hl, hm, hx⟩ := slice_open (E := Int) (size := 1) (ce := fun x => [.int .i64 x]) (ok := fun x => (Lit.int .i64 x).wf = true) Try.underlying27 (by kernel_rfl) (fun n cs y h => by obtain ⟨z, e, hw⟩ := tc_int64 h; exact ⟨z, e, hw⟩) (fun x => rfl) (by decide) h
  exact ⟨A, c, xs, hcs, by simpa only [flatMap_single] using hs, hl, hm, hx⟩
set_option maxRecDepth 100000 in
theorem open_i64s {H : Type} {enc : TypeId × Value → H} {w : World} {base : Nat} {spare : Nat → Bool} {held : Bool} {r : Reach} {b0 : Nat} {v : Value} {d : DataW H} {p : List MemPlace} (hv : Value.okWide Try.prog w r b0 27 v) (h : DataW.Trod enc Try.prog w base spare held 27 v d p) :
    ∃ (sA : Option Addr) (sC : Nat) (s : List Int), v = .slice sA s.length sC ∧ SlOk w 1 sA sC (s.map (Value.int .i64)) ∧ s.length ≤ sC ∧ sC ≤ maxLen ∧ ∀ u_ ∈ s, (Lit.int .i64 u_).wf = true := by
  obtain ⟨a, l, c, rfl⟩ := okWide_slice Try.underlying27 hv
  obtain ⟨fuel, hf⟩ := h
  obtain ⟨sA, sC, s, e, hw⟩ := tc_Slint64 hf
  refine ⟨sA, sC, s, ?_, hw⟩
  simpa [Value.cells] using e
theorem trod_float {P : Program} {H : Type} {enc : TypeId × Value → H} {w : World} {base : Nat} {spare : Nat → Bool} {held : Bool} {t : TypeId} {k : FloatKind} {n : Nat} {cs : List Value} {x : DataW H × List MemPlace} (ht : P.underlying t = some (.float k)) (h : DataW.trod enc P w base spare held n t cs = some x) : ∃ b, cs = [.float k b] ∧ x = (.lit (.float k b), []) ∧ (Lit.float k b).wf = true := by
  cases n with
  | zero => simp [DataW.trod] at h
  | succ n =>
    unfold DataW.trod at h
    rw [ht] at h
    split at h <;> simp_all
theorem tc_float64 {H : Type} {enc : TypeId × Value → H} {w : World} {base : Nat} {spare : Nat → Bool} {held : Bool} {n : Nat} {cs : List Value} {y : DataW H × List MemPlace} (h : DataW.trod enc Try.prog w base spare held n 38 cs = some y) : ∃ (z : Nat), cs = [.float .f64 z] ∧ (Lit.float .f64 z).wf = true := by
  obtain ⟨z, e, _, hw⟩ := trod_float Try.underlying38 h
  exact ⟨z, e, hw⟩
set_option maxRecDepth 100000 in
theorem tc_Charge {H : Type} {enc : TypeId × Value → H} {w : World} {base : Nat} {spare : Nat → Bool} {held : Bool} {n : Nat} {cs : List Value} {y : DataW H × List MemPlace} (h : DataW.trod enc Try.prog w base spare held n 44 cs = some y) : ∃ (n : Int) (rate : Nat), cs = [.int .i64 n, .float .f64 rate] ∧ (Lit.int .i64 n).wf = true ∧ (Lit.float .f64 rate).wf = true := by
  obtain ⟨ys, n', _, _, hl, hy, hf⟩ := DataW.trod_struct Try.underlying44 h
  rw [show Try.prog.cellsOf 44 = 2 from by kernel_rfl] at hl
  match cs, hl with
  | [c0, c1], _ =>
    have g0 := hf 0 _ rfl
    have k0 : Try.prog.cellsOf 2 = 1 := by kernel_rfl
    have e0 : ys[0]? = some (ys[0]'(by rw [hy]; decide)) := List.getElem?_eq_getElem _
    replace g0 : DataW.trod enc Try.prog w base spare held n' 2 [c0] = some (ys[0]'(by rw [hy]; decide)) := by rw [← e0, ← g0]; show _ = DataW.trod _ _ _ _ _ _ _ 2 ((List.drop 0 [c0, c1]).take (Try.prog.cellsOf 2)); rw [k0]; rfl
    obtain ⟨q0, r0, h0_0⟩ := tc_int64 g0
    simp only [List.cons.injEq, and_true] at r0
    have g1 := hf 1 _ rfl
    have k1 : Try.prog.cellsOf 38 = 1 := by kernel_rfl
    have e1 : ys[1]? = some (ys[1]'(by rw [hy]; decide)) := List.getElem?_eq_getElem _
    replace g1 : DataW.trod enc Try.prog w base spare held n' 38 [c1] = some (ys[1]'(by rw [hy]; decide)) := by rw [← e1, ← g1]; show _ = DataW.trod _ _ _ _ _ _ _ 38 ((List.drop 1 [c0, c1]).take (Try.prog.cellsOf 38)); rw [k1]; rfl
    obtain ⟨q1, r1, h1_0⟩ := tc_float64 g1
    simp only [List.cons.injEq, and_true] at r1
    exact ⟨q0, q1, by simp [r0, r1], h0_0, h1_0⟩
set_option maxRecDepth 100000 in
theorem open_charge {H : Type} {enc : TypeId × Value → H} {w : World} {base : Nat} {spare : Nat → Bool} {held : Bool} {r : Reach} {b0 : Nat} {v : Value} {d : DataW H} {p : List MemPlace} (hv : Value.okWide Try.prog w r b0 44 v) (h : DataW.Trod enc Try.prog w base spare held 44 v d p) :
    ∃ (n : Int) (rate : Nat), v = .agg #[.int .i64 n, .float .f64 rate] ∧ (Lit.int .i64 n).wf = true ∧ (Lit.float .f64 rate).wf = true := by
  obtain ⟨cs, rfl, _⟩ := okWide_struct Try.underlying44 hv
  obtain ⟨fuel, hf⟩ := h
  obtain ⟨n, rate, e, hw⟩ := tc_Charge hf
  refine ⟨n, rate, ?_, hw⟩
  obtain ⟨l⟩ := cs
  simp only [Value.cells] at e
  rw [show l = _ from e]
end Go.Proofs.Ytefcofkodhichaa
